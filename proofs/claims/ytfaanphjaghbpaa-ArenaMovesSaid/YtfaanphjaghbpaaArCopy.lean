/- The arena's Copy. -/
import Derived.Test.YtfaanphjaghbpaaArWr
namespace Go.Proofs.Ytfaanphjaghbpaa
open Go.RowKit Go.Shelf
set_option linter.unusedVariables false
set_option linter.unusedSimpArgs false
set_option maxRecDepth 100000
def cpErr (us : List Ext) (e : Ext) (k : Int) (s : Ext) (j n : Int) : Int :=
  if e ∈ us ∧ s ∈ us then (if n < 0 then 1 else if (0 ≤ k ∧ n ≤ e.len ∧ k ≤ e.len - n) ∧ (0 ≤ j ∧ n ≤ s.len ∧ j ≤ s.len - n) then 0 else 7) else 6
def cpF (bs : List Nat) (e : Ext) (k : Int) (s : Ext) (j n f : Int) : List Nat := if f = 0 then splice bs (e.off + k).toNat (winF bs s j n) else bs
set_option maxRecDepth 100000 in
theorem sArCopy1 : type_of% (And.intro (And.intro (And.intro @eBox.eq_1 @exV.eq_1) (And.intro @alL.eq_1 @arL.eq_1)) (And.intro (And.intro @Nat.mul_one @wrap_in) (And.intro @cMp @cM))) := (And.intro (And.intro (And.intro @eBox.eq_1 @exV.eq_1) (And.intro @alL.eq_1 @arL.eq_1)) (And.intro (And.intro @Nat.mul_one @wrap_in) (And.intro @cMp @cM)))
set_option maxHeartbeats 4000000 in
theorem arCopy_any (x : ArR) (us : List Ext) (e : Ext) (k : Int) (s : Ext) (j n : Int) (W : World) (hst : St (feet (arL x)) W (arL x) W) (hI : Ex.Inv (x.N : Int) us x.al.fr x.al.tk) (hl : us.length ≤ 90) (hbs : x.bs.length = x.N) :
    Calls Try.prog 17 #[.pointer (some ⟨x.bR, 0, none⟩), exV e, .int .i64 k, exV s, .int .i64 j, .int .i64 n] W
    fun en w' => ∃ _ : Unit, en = .returned (.int .i64 (cpErr us e k s j n)) ∧ True ∧ St (feet (arL x)) W (arL { x with bs := cpF x.bs e k s j n (cpErr us e k s j n) }) w' := by
  have hfl := hI.frLen
  have hN1 := hI.N1
  obtain ⟨M, hM⟩ : ∃ M, feet (arL x) = M := ⟨_, rfl⟩
  rw [hM] at hst ⊢
  clear hM
  obtain ⟨F, hF⟩ : ∃ F, cpErr us e k s j n = F := ⟨_, rfl⟩
  have hF2 := hF
  unfold cpErr at hF2
  have hnat := fun e h => hI.nat (e := e) h
  obtain ⟨al, bR, bB, N, bs⟩ := x
  dsimp only at hfl hI hbs hN1 hnat
  dsimp only
  have hno : ¬ F = 0 → cpF bs e k s j n F = bs := fun h => by unfold cpF; rw [if_neg h]
  unfold arL alL at hst
  dsimp only at hst
  have hW := fun {w : World} (hw : St M W ([.blk bR 64 [.pointer (some ⟨al.bA, 0, none⟩), .slice (some ⟨bB, 0, none⟩) N N], .blk bB 5 (byt bs), .blk al.bA 99 [.slice al.FA al.fn al.fc, .map (some al.bm)], mpR al.bm al.tk, .row (.slice al.FA al.fn al.fc) 28 2 al.fn (exCells al.fr)]) w) => ArW.of (x := ⟨al, bR, bB, N, bs⟩) hw 0 1 2 3 4 rfl rfl rfl rfl rfl (by dsimp only; omega) hbs (by dsimp only; omega)
  by_cases he : e ∈ us
  · by_cases hs : s ∈ us
    · rw [if_pos ⟨he, hs⟩] at hF2
      obtain ⟨o, q, rfl, hl0, hoN⟩ := hnat e he
      obtain ⟨o2, q2, rfl, hl2, hoN2⟩ := hnat s hs
      dsimp only at hF2
      refine calls_cv (M := M) (n := 65) [.tmp 12] rfl Try.func17 rfl rfl (Nat.le_of_ble_eq_true rfl)  hst ?_
      refine cv_seq_k fun K hK => ?_
      refine cv_region_then rfl ?_
      simp -implicitDefEqProofs (disch := first | omega | decide) only [seval, -Int.reducePow, -Nat.reducePow, cC, pv, binv, sArCopy1, undef]
      intro b7 hb7 hf7 b9 hb9 hf9
      refine hK _ _ ?_
      clear hK K
      refine cv_seq_k fun K hK => ?_
      refine cv_region_then rfl ?_
      simp -implicitDefEqProofs (disch := first | omega | decide) only [seval, -Int.reducePow, -Nat.reducePow, cC, pv, binv, sArCopy1, undef]
      refine callV_ret (fun w hw => arSlice_yes ⟨al, bR, bB, N, bs⟩ us w o q (hW hw.tail.tail) hI he hl0 hoN) ?_
      try simp -implicitDefEqProofs (disch := first | omega | decide) only [seval, -Int.reducePow, -Nat.reducePow, cC, pv, binv, sArCopy1, undef]
      refine hK _ _ ?_
      clear hK K
      refine cv_seq_k fun K hK => ?_
      refine cv_region_then rfl ?_
      simp -implicitDefEqProofs (disch := first | omega | decide) only [seval, -Int.reducePow, -Nat.reducePow, cC, pv, binv, sArCopy1, undef]
      refine callV_ret (fun w hw => arSlice_yes ⟨al, bR, bB, N, bs⟩ us w o2 q2 (hW hw.tail.tail) hI hs hl2 hoN2) ?_
      try simp -implicitDefEqProofs (disch := first | omega | decide) only [seval, -Int.reducePow, -Nat.reducePow, cC, pv, binv, sArCopy1, undef]
      refine hK _ _ ?_
      clear hK K
      refine cv_seq_k fun K hK => ?_
      refine cv_block ?_
      refine cv_seq_k fun K hK => ?_
      refine cv_region_then rfl ?_
      simp -implicitDefEqProofs (disch := first | omega | decide) only [seval, -Int.reducePow, -Nat.reducePow, cC, pv, binv, sArCopy1, undef]
      refine hK _ _ ?_
      clear hK K
      refine cv_cond ?_
      simp -implicitDefEqProofs (disch := first | omega | decide) only [seval, -Int.reducePow, -Nat.reducePow, cC, pv, binv, sArCopy1, undef]
      refine cv_seq_k fun K hK => ?_
      refine cv_region_then rfl ?_
      simp -implicitDefEqProofs (disch := first | omega | decide) only [seval, -Int.reducePow, -Nat.reducePow, cC, pv, binv, sArCopy1, undef]
      refine hK _ _ ?_
      clear hK K
      refine cv_cond ?_
      simp -implicitDefEqProofs (disch := first | omega | decide) only [seval, -Int.reducePow, -Nat.reducePow, cC, pv, binv, sArCopy1, undef]
      refine ⟨fun hc => ?_, fun hc => ?_⟩
      · have q1 := of_decide_eq_true hc
        rw [if_pos q1] at hF2
        refine cv_seq_k fun K hK => ?_
        refine cv_region_then rfl ?_
        simp -implicitDefEqProofs (disch := first | omega | decide) only [seval, -Int.reducePow, -Nat.reducePow, cC, pv, binv, sArCopy1, undef]
        refine hK _ _ ?_
        clear hK K
        refine cv_ret ⟨_, (by simp -implicitDefEqProofs (disch := first | omega | decide) only [seval, -Int.reducePow, -Nat.reducePow, cC, pv, binv, sArCopy1, undef]; rfl), fun w hw => ?_⟩
        rw [hF, hno (by omega), ← hF2]
        first | exact ⟨(), rfl, hw.tail.tail⟩ | exact ⟨(), rfl, trivial, hw.tail.tail⟩
      have q1 := of_decide_eq_false hc
      rw [if_neg q1] at hF2
      by_cases a1 : 0 ≤ k ∧ n ≤ (q : Int) ∧ k ≤ (q : Int) - n
      · have a1' : decide (0 ≤ k ∧ n ≤ (q : Int) ∧ k ≤ (q : Int) - n) = true := decide_eq_true a1
        by_cases a2 : 0 ≤ j ∧ n ≤ (q2 : Int) ∧ j ≤ (q2 : Int) - n
        · have a2' : decide (0 ≤ j ∧ n ≤ (q2 : Int) ∧ j ≤ (q2 : Int) - n) = true := decide_eq_true a2
          rw [if_pos ⟨a1, a2⟩] at hF2
          refine cv_seq_k fun K hK => ?_
          refine cv_region_then rfl ?_
          simp -implicitDefEqProofs (disch := first | omega | decide) only [seval, -Int.reducePow, -Nat.reducePow, cC, pv, binv, sArCopy1, undef]
          refine callV_ret (fun w hw => within_any (some ⟨bB, o, none⟩) q (N - o) k n w (by omega) (by omega)) ?_
          try simp -implicitDefEqProofs (disch := first | omega | decide) only [seval, -Int.reducePow, -Nat.reducePow, cC, pv, binv, sArCopy1, undef, a1']
          refine callV_ret (fun w hw => within_any (some ⟨bB, o2, none⟩) q2 (N - o2) j n w (by omega) (by omega)) ?_
          try simp -implicitDefEqProofs (disch := first | omega | decide) only [seval, -Int.reducePow, -Nat.reducePow, cC, pv, binv, sArCopy1, undef, a2']
          refine hK _ _ ?_
          clear hK K
          refine cv_cond ?_
          simp -implicitDefEqProofs (disch := first | omega | decide) only [seval, -Int.reducePow, -Nat.reducePow, cC, pv, binv, sArCopy1, undef]
          refine cv_skip ?_
          try simp only [blockQ, thenQ]
          refine hK _ _ ?_
          clear hK K
          obtain ⟨k, rfl⟩ : ∃ k' : Nat, k = (k' : Int) := ⟨k.toNat, by omega⟩
          obtain ⟨j, rfl⟩ : ∃ k' : Nat, j = (k' : Int) := ⟨j.toNat, by omega⟩
          obtain ⟨n, rfl⟩ : ∃ k' : Nat, n = (k' : Int) := ⟨n.toNat, by omega⟩
          have t1 : ((k : Int) + (n : Int)).toNat - k = n := by omega
          have t2 : ((j : Int) + (n : Int)).toNat - j = n := by omega
          have hwl : (winF bs ⟨(o2 : Int), (q2 : Int)⟩ (j : Int) (n : Int)).length = n := by
            unfold winF
            rw [show ((⟨(o2 : Int), (q2 : Int)⟩ : Ext).off + (j : Int)).toNat = o2 + j by dsimp only; omega, Int.toNat_natCast, List.length_take, List.length_drop]
            omega
          have hwr : cpF bs ⟨(o : Int), (q : Int)⟩ (k : Int) ⟨(o2 : Int), (q2 : Int)⟩ (j : Int) (n : Int) F = splice bs (o + k) (winF bs ⟨(o2 : Int), (q2 : Int)⟩ (j : Int) (n : Int)) := by unfold cpF; rw [if_pos hF2.symm, show ((⟨(o : Int), (q : Int)⟩ : Ext).off + (k : Int)).toNat = o + k by dsimp only; omega]
          have hsp := byt_splice bs (o + k) (winF bs ⟨(o2 : Int), (q2 : Int)⟩ (j : Int) (n : Int))
          by_cases hn0 : n = 0
          · have hw0 : winF bs ⟨(o2 : Int), (q2 : Int)⟩ (j : Int) (n : Int) = [] := List.eq_nil_of_length_eq_zero (by omega)
            refine cv_seq_k fun K hK => ?_
            refine cv_draw_of (pickL [0] _) (fun w hw => hw.pick (by decide)) (by simp only [pickL, nth, suf_cons, suf_nil, List.mem_cons, true_or, or_true, and_true, eq_self]) [(true, 0), (true, 1), (true, 2), (true, 3), (true, 4), (true, 5), (true, 6), (true, 7), (true, 8), (true, 9), (true, 10), (true, 11), (false, 12)] [12] mixA rfl (by kernel_rfl) (by kernel_rfl) rfl rfl ?_
            simp -implicitDefEqProofs (disch := first | omega | decide) only [seval, -Int.reducePow, -Nat.reducePow, cC, pv, binv, sArCopy1, undef, t1, t2]
            refine xv_copy0 tap36 rfl rfl (.inl hn0) ?_
            simp -implicitDefEqProofs (disch := first | omega | decide) only [seval, -Int.reducePow, -Nat.reducePow, cC, pv, binv, sArCopy1, undef]
            refine hK _ _ ?_
            clear hK K
            refine cv_seq_k fun K hK => ?_
            refine cv_region_then rfl ?_
            simp -implicitDefEqProofs (disch := first | omega | decide) only [seval, -Int.reducePow, -Nat.reducePow, cC, pv, binv, sArCopy1, undef]
            refine hK _ _ ?_
            clear hK K
            refine cv_ret ⟨_, (by simp -implicitDefEqProofs (disch := first | omega | decide) only [seval, -Int.reducePow, -Nat.reducePow, cC, pv, binv, sArCopy1, undef]; rfl), fun w hw => ?_⟩
            rw [hF, hwr, hw0, splice_nil, ← hF2]
            first | exact ⟨(), rfl, hw.tail.tail⟩ | exact ⟨(), rfl, trivial, hw.tail.tail⟩
          · have s1 : sbase (N - o) k 1 (some ⟨bB, o, none⟩) = some ⟨bB, o + k, none⟩ := by rw [sbase_some (by omega), Addr.add_lit]; simp
            have s2 : sbase (N - o2) j 1 (some ⟨bB, o2, none⟩) = some ⟨bB, o2 + j, none⟩ := by rw [sbase_some (by omega), Addr.add_lit]; simp
            refine cv_seq_k fun K hK => ?_
            refine cv_draw_of (pickL [0] _) (fun w hw => hw.pick (by decide)) (by simp only [pickL, nth, suf_cons, suf_nil, List.mem_cons, true_or, or_true, and_true, eq_self]) [(true, 0), (true, 1), (true, 2), (true, 3), (true, 4), (true, 5), (true, 6), (true, 7), (true, 8), (true, 9), (true, 10), (true, 11), (false, 12)] [12] mixA rfl (by kernel_rfl) (by kernel_rfl) rfl rfl ?_
            simp -implicitDefEqProofs (disch := first | omega | decide) only [seval, -Int.reducePow, -Nat.reducePow, cC, pv, binv, sArCopy1, undef, t1, t2, s1, s2]
            refine xv_copy 3 (T := 5) (news := byt (winF bs ⟨(o2 : Int), (q2 : Int)⟩ (j : Int) (n : Int))) tap36 rfl rfl rfl (by rw [byt_len, hwl]; exact (Nat.min_self n).symm) (fun w hw i v hi => by
              rw [Addr.add_lit, hw.blk_cell (t := 5) (cs := byt bs) (.tail _ (.tail _ (.tail _ (.head _))))]
              unfold winF byt at hi
              rw [show ((⟨(o2 : Int), (q2 : Int)⟩ : Ext).off + (j : Int)).toNat = o2 + j by dsimp only; omega, List.getElem?_map, List.getElem?_take] at hi
              split at hi
              · rw [List.getElem?_drop] at hi
                unfold byt
                rw [List.getElem?_map]
                exact hi
              · cases hi) (by rw [byt_len, byt_len]; omega) (ones_byt _) ?_
            simp -implicitDefEqProofs (disch := first | omega | decide) only [seval, -Int.reducePow, -Nat.reducePow, cC, pv, binv, sArCopy1, undef, byt_len, hsp]
            refine hK _ _ ?_
            clear hK K
            refine cv_seq_k fun K hK => ?_
            refine cv_region_then rfl ?_
            simp -implicitDefEqProofs (disch := first | omega | decide) only [seval, -Int.reducePow, -Nat.reducePow, cC, pv, binv, sArCopy1, undef]
            refine hK _ _ ?_
            clear hK K
            refine cv_ret ⟨_, (by simp -implicitDefEqProofs (disch := first | omega | decide) only [seval, -Int.reducePow, -Nat.reducePow, cC, pv, binv, sArCopy1, undef]; rfl), fun w hw => ?_⟩
            rw [hF, hwr, ← hF2]
            first | exact ⟨(), rfl, hw.tail.tail⟩ | exact ⟨(), rfl, trivial, hw.tail.tail⟩
        · have a2' : decide (0 ≤ j ∧ n ≤ (q2 : Int) ∧ j ≤ (q2 : Int) - n) = false := decide_eq_false a2
          rw [if_neg fun h => a2 h.2] at hF2
          refine cv_seq_k fun K hK => ?_
          refine cv_region_then rfl ?_
          simp -implicitDefEqProofs (disch := first | omega | decide) only [seval, -Int.reducePow, -Nat.reducePow, cC, pv, binv, sArCopy1, undef]
          refine callV_ret (fun w hw => within_any (some ⟨bB, o, none⟩) q (N - o) k n w (by omega) (by omega)) ?_
          try simp -implicitDefEqProofs (disch := first | omega | decide) only [seval, -Int.reducePow, -Nat.reducePow, cC, pv, binv, sArCopy1, undef, a1']
          refine callV_ret (fun w hw => within_any (some ⟨bB, o2, none⟩) q2 (N - o2) j n w (by omega) (by omega)) ?_
          try simp -implicitDefEqProofs (disch := first | omega | decide) only [seval, -Int.reducePow, -Nat.reducePow, cC, pv, binv, sArCopy1, undef, a2']
          refine hK _ _ ?_
          clear hK K
          refine cv_cond ?_
          simp -implicitDefEqProofs (disch := first | omega | decide) only [seval, -Int.reducePow, -Nat.reducePow, cC, pv, binv, sArCopy1, undef]
          refine cv_seq_k fun K hK => ?_
          refine cv_region_then rfl ?_
          simp -implicitDefEqProofs (disch := first | omega | decide) only [seval, -Int.reducePow, -Nat.reducePow, cC, pv, binv, sArCopy1, undef]
          refine hK _ _ ?_
          clear hK K
          refine cv_ret ⟨_, (by simp -implicitDefEqProofs (disch := first | omega | decide) only [seval, -Int.reducePow, -Nat.reducePow, cC, pv, binv, sArCopy1, undef]; rfl), fun w hw => ?_⟩
          rw [hF, hno (by omega), ← hF2]
          first | exact ⟨(), rfl, hw.tail.tail⟩ | exact ⟨(), rfl, trivial, hw.tail.tail⟩
      · have a1' : decide (0 ≤ k ∧ n ≤ (q : Int) ∧ k ≤ (q : Int) - n) = false := decide_eq_false a1
        rw [if_neg fun h => a1 h.1] at hF2
        refine cv_seq_k fun K hK => ?_
        refine cv_region_then rfl ?_
        simp -implicitDefEqProofs (disch := first | omega | decide) only [seval, -Int.reducePow, -Nat.reducePow, cC, pv, binv, sArCopy1, undef]
        refine callV_ret (fun w hw => within_any (some ⟨bB, o, none⟩) q (N - o) k n w (by omega) (by omega)) ?_
        try simp -implicitDefEqProofs (disch := first | omega | decide) only [seval, -Int.reducePow, -Nat.reducePow, cC, pv, binv, sArCopy1, undef, a1']
        refine hK _ _ ?_
        clear hK K
        refine cv_cond ?_
        simp -implicitDefEqProofs (disch := first | omega | decide) only [seval, -Int.reducePow, -Nat.reducePow, cC, pv, binv, sArCopy1, undef]
        refine cv_seq_k fun K hK => ?_
        refine cv_region_then rfl ?_
        simp -implicitDefEqProofs (disch := first | omega | decide) only [seval, -Int.reducePow, -Nat.reducePow, cC, pv, binv, sArCopy1, undef]
        refine hK _ _ ?_
        clear hK K
        refine cv_ret ⟨_, (by simp -implicitDefEqProofs (disch := first | omega | decide) only [seval, -Int.reducePow, -Nat.reducePow, cC, pv, binv, sArCopy1, undef]; rfl), fun w hw => ?_⟩
        rw [hF, hno (by omega), ← hF2]
        first | exact ⟨(), rfl, hw.tail.tail⟩ | exact ⟨(), rfl, trivial, hw.tail.tail⟩
    · rw [if_neg fun h => hs h.2] at hF2
      obtain ⟨o, q, rfl, hl0, hoN⟩ := hnat e he
      refine calls_cv (M := M) (n := 65) [.tmp 12] rfl Try.func17 rfl rfl (Nat.le_of_ble_eq_true rfl)  hst ?_
      refine cv_seq_k fun K hK => ?_
      refine cv_region_then rfl ?_
      simp -implicitDefEqProofs (disch := first | omega | decide) only [seval, -Int.reducePow, -Nat.reducePow, cC, pv, binv, sArCopy1, undef]
      intro b7 hb7 hf7 b9 hb9 hf9
      refine hK _ _ ?_
      clear hK K
      refine cv_seq_k fun K hK => ?_
      refine cv_region_then rfl ?_
      simp -implicitDefEqProofs (disch := first | omega | decide) only [seval, -Int.reducePow, -Nat.reducePow, cC, pv, binv, sArCopy1, undef]
      refine callV_ret (fun w hw => arSlice_yes ⟨al, bR, bB, N, bs⟩ us w o q (hW hw.tail.tail) hI he hl0 hoN) ?_
      try simp -implicitDefEqProofs (disch := first | omega | decide) only [seval, -Int.reducePow, -Nat.reducePow, cC, pv, binv, sArCopy1, undef]
      refine hK _ _ ?_
      clear hK K
      refine cv_seq_k fun K hK => ?_
      refine cv_region_then rfl ?_
      simp -implicitDefEqProofs (disch := first | omega | decide) only [seval, -Int.reducePow, -Nat.reducePow, cC, pv, binv, sArCopy1, undef]
      refine callV_ret (fun w hw => arSlice_no ⟨al, bR, bB, N, bs⟩ us w s (hW hw.tail.tail) hI hs) ?_
      try simp -implicitDefEqProofs (disch := first | omega | decide) only [seval, -Int.reducePow, -Nat.reducePow, cC, pv, binv, sArCopy1, undef]
      refine hK _ _ ?_
      clear hK K
      refine cv_seq_k fun K hK => ?_
      refine cv_block ?_
      refine cv_seq_k fun K hK => ?_
      refine cv_region_then rfl ?_
      simp -implicitDefEqProofs (disch := first | omega | decide) only [seval, -Int.reducePow, -Nat.reducePow, cC, pv, binv, sArCopy1, undef]
      refine hK _ _ ?_
      clear hK K
      refine cv_cond ?_
      simp -implicitDefEqProofs (disch := first | omega | decide) only [seval, -Int.reducePow, -Nat.reducePow, cC, pv, binv, sArCopy1, undef]
      refine cv_seq_k fun K hK => ?_
      refine cv_region_then rfl ?_
      simp -implicitDefEqProofs (disch := first | omega | decide) only [seval, -Int.reducePow, -Nat.reducePow, cC, pv, binv, sArCopy1, undef]
      refine hK _ _ ?_
      clear hK K
      refine cv_ret ⟨_, (by simp -implicitDefEqProofs (disch := first | omega | decide) only [seval, -Int.reducePow, -Nat.reducePow, cC, pv, binv, sArCopy1, undef]; rfl), fun w hw => ?_⟩
      rw [hF, hno (by omega), ← hF2]
      first | exact ⟨(), rfl, hw.tail.tail⟩ | exact ⟨(), rfl, trivial, hw.tail.tail⟩
  · rw [if_neg fun h => he h.1] at hF2
    refine calls_cv (M := M) (n := 65) [.tmp 12] rfl Try.func17 rfl rfl (Nat.le_of_ble_eq_true rfl)  hst ?_
    refine cv_seq_k fun K hK => ?_
    refine cv_region_then rfl ?_
    simp -implicitDefEqProofs (disch := first | omega | decide) only [seval, -Int.reducePow, -Nat.reducePow, cC, pv, binv, sArCopy1, undef]
    intro b7 hb7 hf7 b9 hb9 hf9
    refine hK _ _ ?_
    clear hK K
    refine cv_seq_k fun K hK => ?_
    refine cv_region_then rfl ?_
    simp -implicitDefEqProofs (disch := first | omega | decide) only [seval, -Int.reducePow, -Nat.reducePow, cC, pv, binv, sArCopy1, undef]
    refine callV_ret (fun w hw => arSlice_no ⟨al, bR, bB, N, bs⟩ us w e (hW hw.tail.tail) hI he) ?_
    try simp -implicitDefEqProofs (disch := first | omega | decide) only [seval, -Int.reducePow, -Nat.reducePow, cC, pv, binv, sArCopy1, undef]
    refine hK _ _ ?_
    clear hK K
    by_cases hs : s ∈ us
    · obtain ⟨o2, q2, rfl, hl2, hoN2⟩ := hnat s hs
      refine cv_seq_k fun K hK => ?_
      refine cv_region_then rfl ?_
      simp -implicitDefEqProofs (disch := first | omega | decide) only [seval, -Int.reducePow, -Nat.reducePow, cC, pv, binv, sArCopy1, undef]
      refine callV_ret (fun w hw => arSlice_yes ⟨al, bR, bB, N, bs⟩ us w o2 q2 (hW hw.tail.tail) hI hs hl2 hoN2) ?_
      try simp -implicitDefEqProofs (disch := first | omega | decide) only [seval, -Int.reducePow, -Nat.reducePow, cC, pv, binv, sArCopy1, undef]
      refine hK _ _ ?_
      clear hK K
      refine cv_seq_k fun K hK => ?_
      refine cv_block ?_
      refine cv_seq_k fun K hK => ?_
      refine cv_region_then rfl ?_
      simp -implicitDefEqProofs (disch := first | omega | decide) only [seval, -Int.reducePow, -Nat.reducePow, cC, pv, binv, sArCopy1, undef]
      refine hK _ _ ?_
      clear hK K
      refine cv_cond ?_
      simp -implicitDefEqProofs (disch := first | omega | decide) only [seval, -Int.reducePow, -Nat.reducePow, cC, pv, binv, sArCopy1, undef]
      refine cv_seq_k fun K hK => ?_
      refine cv_region_then rfl ?_
      simp -implicitDefEqProofs (disch := first | omega | decide) only [seval, -Int.reducePow, -Nat.reducePow, cC, pv, binv, sArCopy1, undef]
      refine hK _ _ ?_
      clear hK K
      refine cv_ret ⟨_, (by simp -implicitDefEqProofs (disch := first | omega | decide) only [seval, -Int.reducePow, -Nat.reducePow, cC, pv, binv, sArCopy1, undef]; rfl), fun w hw => ?_⟩
      rw [hF, hno (by omega), ← hF2]
      first | exact ⟨(), rfl, hw.tail.tail⟩ | exact ⟨(), rfl, trivial, hw.tail.tail⟩
    · refine cv_seq_k fun K hK => ?_
      refine cv_region_then rfl ?_
      simp -implicitDefEqProofs (disch := first | omega | decide) only [seval, -Int.reducePow, -Nat.reducePow, cC, pv, binv, sArCopy1, undef]
      refine callV_ret (fun w hw => arSlice_no ⟨al, bR, bB, N, bs⟩ us w s (hW hw.tail.tail) hI hs) ?_
      try simp -implicitDefEqProofs (disch := first | omega | decide) only [seval, -Int.reducePow, -Nat.reducePow, cC, pv, binv, sArCopy1, undef]
      refine hK _ _ ?_
      clear hK K
      refine cv_seq_k fun K hK => ?_
      refine cv_block ?_
      refine cv_seq_k fun K hK => ?_
      refine cv_region_then rfl ?_
      simp -implicitDefEqProofs (disch := first | omega | decide) only [seval, -Int.reducePow, -Nat.reducePow, cC, pv, binv, sArCopy1, undef]
      refine hK _ _ ?_
      clear hK K
      refine cv_cond ?_
      simp -implicitDefEqProofs (disch := first | omega | decide) only [seval, -Int.reducePow, -Nat.reducePow, cC, pv, binv, sArCopy1, undef]
      refine cv_seq_k fun K hK => ?_
      refine cv_region_then rfl ?_
      simp -implicitDefEqProofs (disch := first | omega | decide) only [seval, -Int.reducePow, -Nat.reducePow, cC, pv, binv, sArCopy1, undef]
      refine hK _ _ ?_
      clear hK K
      refine cv_ret ⟨_, (by simp -implicitDefEqProofs (disch := first | omega | decide) only [seval, -Int.reducePow, -Nat.reducePow, cC, pv, binv, sArCopy1, undef]; rfl), fun w hw => ?_⟩
      rw [hF, hno (by omega), ← hF2]
      first | exact ⟨(), rfl, hw.tail.tail⟩ | exact ⟨(), rfl, trivial, hw.tail.tail⟩
end Go.Proofs.Ytfaanphjaghbpaa
