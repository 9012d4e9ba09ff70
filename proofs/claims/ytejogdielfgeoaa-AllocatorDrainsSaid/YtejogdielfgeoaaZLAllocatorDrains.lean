/- The laws' run: an allocator after a list of steps. -/
import Derived.Test.YtejogdielfgeoaaZ5
import Derived.Test.YtejogdielfgeoaaZ4
import Derived.Test.YtejogdielfgeoaaZ6
namespace Go.Proofs.Ytejogdielfgeoaa
open Go.RowKit Go.Shelf
set_option linter.unusedVariables false
set_option linter.unusedSimpArgs false
set_option maxRecDepth 100000
theorem s3_lenR (s : S3) : (s3V s).length = 3 := rfl
set_option maxRecDepth 100000 in
theorem sAlRun1 : type_of% (And.intro (And.intro (And.intro @eBox.eq_1 @exV.eq_1) (And.intro @alL.eq_1 @mlL.eq_1)) (And.intro (And.intro @wkL.eq_1 @Nat.mul_one) (And.intro @wrap_in (And.intro @cMp @cM)))) := (And.intro (And.intro (And.intro @eBox.eq_1 @exV.eq_1) (And.intro @alL.eq_1 @mlL.eq_1)) (And.intro (And.intro @wkL.eq_1 @Nat.mul_one) (And.intro @wrap_in (And.intro @cMp @cM))))
set_option maxHeartbeats 4000000 in
theorem alRun_any (N : Nat) (hN1 : N ≤ 1048576) (A : Option Addr) (n c : Nat) (l : List S3) (W : World) (hE : Sl W W.heap.size 3 A n c (cl s3V l)) (hb : ∀ s ∈ l, s.ok) :
    Calls Try.prog 20 #[.int .i64 (N : Int), .slice A n c] W fun e w' => ∃ x : AlR × List Ext, e = .returned (.tuple #[.pointer (some ⟨x.1.bA, 0, none⟩), .bool true]) ∧ (Ex.Inv (N : Int) x.2 x.1.fr x.1.tk ∧ x.2.length ≤ 24) ∧ St [] W (alL x.1) w' := by
  have hlen := cl_row s3_lenR (by omega) hE.len
  refine calls_cv (M := []) (n := 52) [.tmp 4, .tmp 5] rfl Try.func20 rfl rfl (Nat.le_of_ble_eq_true rfl) (St.nil _ _) ?_
  refine cv_seq_k fun K hK => ?_
  refine cv_region_then rfl ?_
  simp -implicitDefEqProofs (disch := first | omega | decide) only [seval, -Int.reducePow, -Nat.reducePow, cC, pv, binv, sAlRun1, undef, List.cons_append, List.nil_append]
  refine hK _ _ ?_
  clear hK K
  refine cv_seq_k fun K hK => ?_
  refine cv_region_then rfl ?_
  simp -implicitDefEqProofs (disch := first | omega | decide) only [seval, -Int.reducePow, -Nat.reducePow, cC, pv, binv, sAlRun1, undef, List.cons_append, List.nil_append]
  refine callV_grp [] [] (by decide) (fun x : AlR => .tuple #[.pointer (some ⟨x.bA, 0, none⟩), .int .i64 0]) (fun x => alL x) (fun x => Ex.Inv (N : Int) [] x.fr x.tk) (fun w hw hs => (aNew_ok N w hN1).mono (by
    rintro e w' ⟨y, rfl, ⟨h1, h2⟩, h3⟩
    refine ⟨y, rfl, ?_, h3⟩
    rw [h1, h2]
    exact Ex.inv_new (by omega) (by omega))) ?_
  intro x1 hI1
  simp only [pickL, nth]
  simp -implicitDefEqProofs (disch := first | omega | decide) only [seval, -Int.reducePow, -Nat.reducePow, cC, pv, binv, sAlRun1, undef, List.cons_append, List.nil_append]
  refine hK _ _ ?_
  clear hK K
  refine cv_seq_k fun K hK => ?_
  refine cv_seq_k fun K hK => ?_
  refine cv_region_then rfl ?_
  simp -implicitDefEqProofs (disch := first | omega | decide) only [seval, -Int.reducePow, -Nat.reducePow, cC, pv, binv, sAlRun1, undef, List.cons_append, List.nil_append]
  refine hK _ _ ?_
  clear hK K
  refine cv_cond ?_
  simp -implicitDefEqProofs (disch := first | omega | decide) only [seval, -Int.reducePow, -Nat.reducePow, cC, pv, binv, sAlRun1, undef, List.cons_append, List.nil_append]
  refine cv_skip ?_
  try simp only [blockQ, thenQ]
  refine hK _ _ ?_
  clear hK K
  refine cv_seq_k fun K hK => ?_
  refine cv_region_then rfl ?_
  simp -implicitDefEqProofs (disch := first | omega | decide) only [seval, -Int.reducePow, -Nat.reducePow, cC, pv, binv, sAlRun1, undef, List.cons_append, List.nil_append]
  intro bM hbM hfM
  refine hK _ _ ?_
  clear hK K
  refine cv_nil 39 2 ?_
  refine cv_seq_k fun K hK => ?_
  refine cv_region_then rfl ?_
  simp -implicitDefEqProofs (disch := first | omega | decide) only [seval, -Int.reducePow, -Nat.reducePow, cC, pv, binv, sAlRun1, undef, List.cons_append, List.nil_append]
  refine hK _ _ ?_
  clear hK K
  refine cv_seq_k fun K hK => ?_
  refine cv_seq_k fun K hK => ?_
  refine cv_region_then rfl ?_
  simp -implicitDefEqProofs (disch := first | omega | decide) only [seval, -Int.reducePow, -Nat.reducePow, cC, pv, binv, sAlRun1, undef, List.cons_append, List.nil_append]
  refine hK _ _ ?_
  clear hK K
  refine cv_nil 39 2 ?_
  refine cv_gen fun G1 hG => ?_
  have g1_1 := congrFun hG 1
  have g1_6 := congrFun hG 6
  have g1_8 := congrFun hG 8
  have g1_9 := congrFun hG 9
  have g1_10 := congrFun hG 10
  clear hG
  try simp -implicitDefEqProofs (disch := first | omega | decide) only [seval, -Int.reducePow, -Nat.reducePow, cC, pv, binv, sAlRun1, undef, List.cons_append, List.nil_append] at g1_1 g1_6 g1_8 g1_9 g1_10
  have g1 := And.intro g1_1 (And.intro g1_6 (And.intro g1_8 (And.intro g1_9 g1_10)))
  refine cv_pick [3, 4, 5, 2, 1, 0] (by decide) ?_
  simp only [pickL, nth]
  refine cv_block ?_
  refine cv_loop (fun F' L' => ∃ (i : Nat) (z : Wk), F' 1 = G1 1 ∧ F' 6 = .pointer (some ⟨z.al.bA, 0, none⟩) ∧ F' 8 = .pointer (some ⟨z.ml.bM, 0, none⟩) ∧ F' 9 = .slice z.A z.n z.c ∧ F' 10 = .int .i64 (i : Int) ∧ L' = wkL z ∧ WkI (N : Int) i z ∧ i ≤ 24) (fun F' L' => 40 - (intOf (F' 10)).toNat) ?_ ?_
  · refine ⟨0, ⟨x1, ⟨bM, (N : Int), none, 0, 0, []⟩, none, 0, 0, []⟩, ?_⟩
    simp -implicitDefEqProofs (disch := first | omega | decide) only [seval, -Int.reducePow, -Nat.reducePow, cC, pv, binv, sAlRun1, undef, List.cons_append, List.nil_append, g1]
    exact ⟨rfl, ⟨hI1, rfl, by simp, by simp⟩⟩
  intro G2 L' hI
  obtain ⟨i, z, q1, q6, q8, q9, q10, rfl, ⟨hI, hi⟩⟩ := hI
  have g2_1 := q1.trans g1_1
  have g2_6 := q6
  have g2_8 := q8
  have g2_9 := q9
  have g2_10 := q10
  clear q1 q6 q8 q9 q10
  have g2 := And.intro g2_1 (And.intro g2_6 (And.intro g2_8 (And.intro g2_9 g2_10)))
  refine cv_seq_k fun K hK => ?_
  by_cases hc1 : i < n ∧ i < 24
  · have a1 : decide ((i : Int) < (n : Int)) = true := decide_eq_true (by omega)
    have a2 : decide ((i : Int) < 24) = true := decide_eq_true (by omega)
    obtain ⟨s, hs⟩ : ∃ s, l[i]? = some s := ⟨_, List.getElem?_eq_getElem (by omega)⟩
    have hok := hb s (List.mem_of_getElem? hs)
    unfold S3.ok at hok
    have hpos : 0 < n := by omega
    obtain ⟨bF, oF, rfl, hbF, -⟩ := hE.cells hpos
    refine cv_apart fun hap => ?_
    simp only [factL_nil, factL_blk, factL_row, neR_nil, neR_blk, neR_row, neB_nil, neB_blk, neB_row, and_true, true_and, List.not_mem_nil, or_false, sAlRun1, undef, List.cons_append, List.nil_append] at hap
    obtain hap := hap
    refine cv_seq_k fun K hK => ?_
    refine cv_region_then rfl ?_
    simp -implicitDefEqProofs (disch := first | omega | decide) only [seval, -Int.reducePow, -Nat.reducePow, cC, pv, binv, sAlRun1, undef, List.cons_append, List.nil_append, a1, a2, g1, g2]
    refine hK _ _ ?_
    clear hK K
    refine cv_cond ?_
    simp -implicitDefEqProofs (disch := first | omega | decide) only [seval, -Int.reducePow, -Nat.reducePow, cC, pv, binv, sAlRun1, undef, List.cons_append, List.nil_append, g1, g2]
    refine cv_skip ?_
    try simp only [blockQ, thenQ]
    refine hK _ _ ?_
    clear hK K
    refine cv_seq_k fun K hK => ?_
    refine cv_block ?_
    refine cv_seq_k fun K hK => ?_
    refine cv_region_then rfl ?_
    simp -implicitDefEqProofs (disch := first | omega | decide) only [seval, -Int.reducePow, -Nat.reducePow, cC, pv, binv, sAlRun1, undef, List.cons_append, List.nil_append, g1, g2]
    refine ⟨_, hE.ld (vs := s3V s) hpos (show tsz Try.prog 35 = some (true, 3) from by kernel_rfl) (cl_at s3_lenR hs), fun tok htok => ?_⟩
    subst htok
    simp -implicitDefEqProofs (disch := first | omega | decide) only [seval, -Int.reducePow, -Nat.reducePow, cC, pv, binv, sAlRun1, undef, List.cons_append, List.nil_append, g1, g2]
    refine callV_grp [0, 1, 2, 3, 4, 5] [] (by decide) (fun z2 : Wk => .tuple #[.slice z2.A z2.n z2.c, .bool true]) (fun z2 => wkL z2) (fun z2 => WkI (N : Int) (i + 1) z2 ∧ z2.al.bA = z.al.bA ∧ z2.ml.bM = z.ml.bM) (fun w hw hq => alStep_any (N : Int) i z (s.a : Int) (s.b : Int) (s.c : Int) w hq hI (by omega) (by omega) (by omega) (by omega)) ?_
    rintro z2 ⟨hI2, e1, e2⟩
    simp only [pickL, nth]
    simp -implicitDefEqProofs (disch := first | omega | decide) only [seval, -Int.reducePow, -Nat.reducePow, cC, pv, binv, sAlRun1, undef, List.cons_append, List.nil_append, g1, g2]
    refine hK _ _ ?_
    clear hK K
    refine cv_seq_k fun K hK => ?_
    refine cv_seq_k fun K hK => ?_
    refine cv_region_then rfl ?_
    simp -implicitDefEqProofs (disch := first | omega | decide) only [seval, -Int.reducePow, -Nat.reducePow, cC, pv, binv, sAlRun1, undef, List.cons_append, List.nil_append, g1, g2]
    refine hK _ _ ?_
    clear hK K
    refine cv_cond ?_
    simp -implicitDefEqProofs (disch := first | omega | decide) only [seval, -Int.reducePow, -Nat.reducePow, cC, pv, binv, sAlRun1, undef, List.cons_append, List.nil_append, g1, g2]
    refine cv_skip ?_
    try simp only [blockQ, thenQ]
    refine hK _ _ ?_
    clear hK K
    refine cv_region_q rfl ?_
    simp -implicitDefEqProofs (disch := first | omega | decide) only [seval, -Int.reducePow, -Nat.reducePow, cC, pv, binv, sAlRun1, undef, List.cons_append, List.nil_append, g1, g2]
    refine hK _ _ ?_
    clear hK K
    refine cv_region_then rfl ?_
    simp -implicitDefEqProofs (disch := first | omega | decide) only [seval, -Int.reducePow, -Nat.reducePow, cC, pv, binv, sAlRun1, undef, List.cons_append, List.nil_append, g1, g2]
    refine ⟨⟨i + 1, z2, ?_⟩, ?_⟩
    · simp -implicitDefEqProofs (disch := first | omega | decide) only [seval, -Int.reducePow, -Nat.reducePow, cC, pv, binv, sAlRun1, undef, List.cons_append, List.nil_append, e1, e2, Int.natCast_add, g1, g2]
      exact ⟨hI2, by omega⟩
    · simp only [intOf]; omega
  · refine cv_seq_k fun K hK => ?_
    refine cv_region_then rfl ?_
    by_cases h1 : i < n
    · have a1 : decide ((i : Int) < (n : Int)) = true := decide_eq_true (by omega)
      have a2 : decide ((i : Int) < 24) = false := decide_eq_false (by omega)
      simp -implicitDefEqProofs (disch := first | omega | decide) only [seval, -Int.reducePow, -Nat.reducePow, cC, pv, binv, sAlRun1, undef, List.cons_append, List.nil_append, a1, a2, g1, g2]
      refine hK _ _ ?_
      clear hK K
      refine cv_cond ?_
      simp -implicitDefEqProofs (disch := first | omega | decide) only [seval, -Int.reducePow, -Nat.reducePow, cC, pv, binv, sAlRun1, undef, List.cons_append, List.nil_append, g1, g2]
      refine cv_exit ?_
      simp only [blockQ, thenQ, if_true, ite_true]
      clear hK K
      refine hK _ _ ?_
      clear hK K
      refine cv_seq_k fun K hK => ?_
      refine cv_region_then rfl ?_
      simp -implicitDefEqProofs (disch := first | omega | decide) only [seval, -Int.reducePow, -Nat.reducePow, cC, pv, binv, sAlRun1, undef, List.cons_append, List.nil_append, g1, g2]
      refine hK _ _ ?_
      clear hK K
      refine cv_ret ⟨_, (by simp -implicitDefEqProofs (disch := first | omega | decide) only [seval, -Int.reducePow, -Nat.reducePow, cC, pv, binv, sAlRun1, undef, List.cons_append, List.nil_append, g1, g2]; rfl), fun w hw => ?_⟩
      exact ⟨(z.al, z.ml.us), rfl, ⟨by have := hI.inv; rw [hI.N] at this; exact this, by have := hI.us; dsimp only; omega⟩, hw.pick (ix := [0, 1, 2]) (by decide)⟩
    · have a1 : decide ((i : Int) < (n : Int)) = false := decide_eq_false (by omega)
      simp -implicitDefEqProofs (disch := first | omega | decide) only [seval, -Int.reducePow, -Nat.reducePow, cC, pv, binv, sAlRun1, undef, List.cons_append, List.nil_append, a1, g1, g2]
      refine hK _ _ ?_
      clear hK K
      refine cv_cond ?_
      simp -implicitDefEqProofs (disch := first | omega | decide) only [seval, -Int.reducePow, -Nat.reducePow, cC, pv, binv, sAlRun1, undef, List.cons_append, List.nil_append, g1, g2]
      refine cv_exit ?_
      simp only [blockQ, thenQ, if_true, ite_true]
      clear hK K
      refine hK _ _ ?_
      clear hK K
      refine cv_seq_k fun K hK => ?_
      refine cv_region_then rfl ?_
      simp -implicitDefEqProofs (disch := first | omega | decide) only [seval, -Int.reducePow, -Nat.reducePow, cC, pv, binv, sAlRun1, undef, List.cons_append, List.nil_append, g1, g2]
      refine hK _ _ ?_
      clear hK K
      refine cv_ret ⟨_, (by simp -implicitDefEqProofs (disch := first | omega | decide) only [seval, -Int.reducePow, -Nat.reducePow, cC, pv, binv, sAlRun1, undef, List.cons_append, List.nil_append, g1, g2]; rfl), fun w hw => ?_⟩
      exact ⟨(z.al, z.ml.us), rfl, ⟨by have := hI.inv; rw [hI.N] at this; exact this, by have := hI.us; dsimp only; omega⟩, hw.pick (ix := [0, 1, 2]) (by decide)⟩
end Go.Proofs.Ytejogdielfgeoaa
/- The law AllocatorParts, walked. -/
namespace Go.Proofs.Ytejogdielfgeoaa
open Go.RowKit Go.Shelf
set_option linter.unusedVariables false
set_option linter.unusedSimpArgs false
set_option maxRecDepth 100000
theorem mem_perm {l us : List Ext} (h : ∀ e, e ∈ l ↔ e ∈ us) (o : Int) : Ex.mem l o ↔ Ex.mem us o := by
  unfold Ex.mem
  exact ⟨fun ⟨x, hx, ho⟩ => ⟨x, (h x).1 hx, ho⟩, fun ⟨x, hx, ho⟩ => ⟨x, (h x).2 hx, ho⟩⟩
theorem srt_inv {N : Int} {us fr : List Ext} {tk : List (Int × Int)} (h : Ex.Inv N us fr tk) : Ex.Inv N (srtT tk) fr tk := by
  have hm := srt_mem h
  obtain ⟨a, b, -, -⟩ := h.free
  refine Ex.inv_eq h.N0 h.N1 (fun e he => h.prop e ((hm e).1 he)) ?_ a (fun o => by rw [b, mem_perm hm]) (fun o l => by rw [h.tak, hm]) h.nd
  refine ((srt_perm h).pairwise_iff ?_).2 h.apart
  intro x y hxy o hy hx
  exact hxy o hx hy
theorem parts_ends {N : Int} {us fr : List Ext} {tk : List (Int × Int)} (h : Ex.Inv N us fr tk) : (srtT tk).Pairwise fun a b => a.off + a.len ≤ b.off := by
  have hi := srt_inv h
  have h1 := (List.Pairwise.and_mem.1 ((srt_le (tk := tk)).and hi.apart))
  refine h1.imp ?_
  rintro a b ⟨ha, hb, hle, hap⟩
  have pa := (hi.prop a ha).1
  have pb := (hi.prop b hb).1
  unfold Ext.prop at pa pb
  by_cases hc : a.off + a.len ≤ b.off
  · exact hc
  · exact absurd (show Ex.inn b b.off by unfold Ex.inn; omega) (hap b.off (by unfold Ex.inn; omega))
theorem parts_step {N : Int} {l fr : List Ext} {tk : List (Int × Int)} (h : Ex.Inv N l fr tk) {i : Nat} (hi : i < l.length) : Ex.insF (Ex.setOf (l.take i)) (Ex.get l i) = (Ex.setOf (l.take (i + 1)), 0) := by
  have hv : Ex.vld (Ex.setOf (l.take i)) := Ex.setOf_vld (l.take i) [] (fun i hi => by simp at hi) fun e he => (h.prop e (List.mem_of_mem_take he)).1
  have hsn : l.take (i + 1) = l.take i ++ [Ex.get l i] := by rw [List.take_add_one, List.getElem?_eq_getElem hi, Ex.get_eq hi]; rfl
  have hap : (l.take (i + 1)).Pairwise fun a b => ∀ o, Ex.inn a o → ¬ Ex.inn b o := h.apart.sublist (List.take_sublist _ _)
  rw [hsn] at hap ⊢
  have hap2 := List.pairwise_append.1 hap
  have hm := (Ex.setFold (l.take i) [] (fun i hi => by simp at hi) (fun e he => (h.prop e (List.mem_of_mem_take he)).1) (fun e _ o _ hm => by simp [Ex.mem] at hm) hap2.1).2
  have hp := (h.prop (Ex.get l i) (by rw [Ex.get_eq hi]; exact List.getElem_mem _)).1
  rcases Ex.insF_spec hv hp with ⟨-, o, ho, hin⟩ | ⟨h1, -⟩
  · have ho2 := (hm o).1 ho
    simp only [Ex.mem, List.not_mem_nil, false_and, exists_false, false_or] at ho2
    obtain ⟨x, hx, hxo⟩ := ho2
    exact absurd hin (hap2.2.2 x hx _ (by simp) o hxo)
  · rw [Ex.setOf_snoc]
    exact Prod.ext rfl h1
structure PtI (l : List Ext) (i : Nat) (at_ : Int) : Prop where
  le : ∀ e ∈ l.drop i, at_ ≤ e.off
set_option maxRecDepth 100000 in
theorem sAlLPa1 : type_of% (And.intro (And.intro @eBox.eq_1 (And.intro @exV.eq_1 @alL.eq_1)) (And.intro (And.intro @Nat.mul_one @wrap_in) (And.intro @cMp @cM))) := (And.intro (And.intro @eBox.eq_1 (And.intro @exV.eq_1 @alL.eq_1)) (And.intro (And.intro @Nat.mul_one @wrap_in) (And.intro @cMp @cM)))
set_option maxHeartbeats 4000000 in
theorem alParts_walk (W : World) (room : Int) (hr : 0 ≤ room ∧ room ≤ 65535) (A : Option Addr) (n c : Nat) (l : List S3) (hE : Sl W W.heap.size 3 A n c (cl s3V l)) (hb : ∀ s ∈ l, s.ok) :
    Calls Try.prog 5 #[.int .u16 room, .slice A n c] W fun e w' => e = .returned (.bool true) ∧ Below W.heap.size W w' := by
  obtain ⟨N, hN⟩ : ∃ N : Nat, room % 2000 = (N : Int) := ⟨(room % 2000).toNat, by omega⟩
  have hN1 : N ≤ 1048576 := by omega
  refine calls_cv (M := []) (n := 72) [.tmp 4] rfl Try.func5 rfl rfl (Nat.le_of_ble_eq_true rfl) (St.nil _ _) ?_
  refine cv_seq_k fun K hK => ?_
  refine cv_region_then rfl ?_
  simp -implicitDefEqProofs (disch := first | omega | decide) only [seval, -Int.reducePow, -Nat.reducePow, cC, pv, binv, sAlLPa1, undef, List.cons_append, List.nil_append]
  refine hK _ _ ?_
  clear hK K
  refine cv_seq_k fun K hK => ?_
  refine cv_region_then rfl ?_
  simp -implicitDefEqProofs (disch := first | omega | decide) only [seval, -Int.reducePow, -Nat.reducePow, cC, pv, binv, sAlLPa1, undef, List.cons_append, List.nil_append, hN]
  refine hK _ _ ?_
  clear hK K
  refine cv_seq_k fun K hK => ?_
  refine cv_region_then rfl ?_
  simp -implicitDefEqProofs (disch := first | omega | decide) only [seval, -Int.reducePow, -Nat.reducePow, cC, pv, binv, sAlLPa1, undef, List.cons_append, List.nil_append]
  refine callV_grp [] [] (by decide) (fun x : AlR × List Ext => .tuple #[.pointer (some ⟨x.1.bA, 0, none⟩), .bool true]) (fun x => alL x.1) (fun x => Ex.Inv (N : Int) x.2 x.1.fr x.1.tk ∧ x.2.length ≤ 24) (fun w hw hs => alRun_any N hN1 A n c l w (hE.at hw) hb) ?_
  rintro ⟨⟨bA, bm, FA, fn, fc, fr, tk⟩, us⟩ ⟨hI, hl⟩
  dsimp only at hI hl
  have hfl := hI.frLen
  have htl := hI.tkLen
  have hky := hI.keys
  have hJ := srt_inv hI
  have hends := parts_ends hI
  have hsl := srtT_len tk
  obtain ⟨S, hS⟩ : ∃ S, srtT tk = S := ⟨_, rfl⟩
  rw [hS] at hJ hends hsl
  have hcomp := hJ.free.2.2.1
  have hfr := hJ.fr
  have hcF : Ex.compF (Ex.setOf S) (N : Int) = (fr, 0) := Prod.ext hfr.symm hcomp
  simp only [pickL, nth]
  simp -implicitDefEqProofs (disch := first | omega | decide) only [seval, -Int.reducePow, -Nat.reducePow, cC, pv, binv, sAlLPa1, undef, List.cons_append, List.nil_append]
  refine hK _ _ ?_
  clear hK K
  refine cv_seq_k fun K hK => ?_
  refine cv_seq_k fun K hK => ?_
  refine cv_region_then rfl ?_
  simp -implicitDefEqProofs (disch := first | omega | decide) only [seval, -Int.reducePow, -Nat.reducePow, cC, pv, binv, sAlLPa1, undef, List.cons_append, List.nil_append]
  refine hK _ _ ?_
  clear hK K
  refine cv_cond ?_
  simp -implicitDefEqProofs (disch := first | omega | decide) only [seval, -Int.reducePow, -Nat.reducePow, cC, pv, binv, sAlLPa1, undef, List.cons_append, List.nil_append]
  refine cv_skip ?_
  try simp only [blockQ, thenQ]
  refine hK _ _ ?_
  clear hK K
  refine cv_seq_k fun K hK => ?_
  refine cv_region_then rfl ?_
  simp -implicitDefEqProofs (disch := first | omega | decide) only [seval, -Int.reducePow, -Nat.reducePow, cC, pv, binv, sAlLPa1, undef, List.cons_append, List.nil_append]
  refine hK _ _ ?_
  clear hK K
  refine cv_seq_k fun K hK => ?_
  refine cv_region_then rfl ?_
  simp -implicitDefEqProofs (disch := first | omega | decide) only [seval, -Int.reducePow, -Nat.reducePow, cC, pv, binv, sAlLPa1, undef, List.cons_append, List.nil_append]
  refine hK _ _ ?_
  clear hK K
  refine cv_seq_k fun K hK => ?_
  refine cv_seq_k fun K hK => ?_
  refine cv_region_then rfl ?_
  simp -implicitDefEqProofs (disch := first | omega | decide) only [seval, -Int.reducePow, -Nat.reducePow, cC, pv, binv, sAlLPa1, undef, List.cons_append, List.nil_append]
  refine callV_row (fun A n c => .slice A n c) (fun w hw => (by have := listed_any ⟨bA, bm, FA, fn, fc, fr, tk⟩ (W := w) (AlW.of (x := ⟨bA, bm, FA, fn, fc, fr, tk⟩) hw 0 1 2 rfl rfl rfl (by dsimp only; omega)) (by dsimp only; omega) (fun p hp => by have := hky p hp; omega); dsimp only at this; rw [hS] at this; exact this)) ?_
  intro A1 n1 c1 hl1 hr1
  simp -implicitDefEqProofs (disch := first | omega | decide) only [seval, -Int.reducePow, -Nat.reducePow, cC, pv, binv, sAlLPa1, undef, List.cons_append, List.nil_append]
  refine hK _ _ ?_
  clear hK K
  have hn1 : S.length = n1 := by rw [exCells_len] at hl1; omega
  refine cv_gen fun G1 hG => ?_
  have g1_5 := congrFun hG 5
  have g1_6 := congrFun hG 6
  have g1_8 := congrFun hG 8
  have g1_9 := congrFun hG 9
  have g1_28 := congrFun hG 28
  have g1_29 := congrFun hG 29
  have g1_30 := congrFun hG 30
  clear hG
  try simp -implicitDefEqProofs (disch := first | omega | decide) only [seval, -Int.reducePow, -Nat.reducePow, cC, pv, binv, sAlLPa1, undef, List.cons_append, List.nil_append] at g1_5 g1_6 g1_8 g1_9 g1_28 g1_29 g1_30
  have g1 := And.intro g1_5 (And.intro g1_6 (And.intro g1_8 (And.intro g1_9 (And.intro g1_28 (And.intro g1_29 g1_30)))))
  refine cv_nil 39 2 ?_
  refine cv_block ?_
  refine cv_loop (fun F' L' => ∃ (i : Nat) (A2 : Option Addr) (n2 c2 : Nat) (at_ : Int), F' 5 = G1 5 ∧ F' 6 = G1 6 ∧ F' 8 = .int .i64 at_ ∧ F' 9 = .slice A2 n2 c2 ∧ F' 28 = G1 28 ∧ F' 29 = G1 29 ∧ F' 30 = .int .i64 (i : Int) ∧ L' = [.row (.slice A2 n2 c2) 39 2 n2 (exCells (Ex.setOf (S.take i))), .row (.slice A1 n1 c1) 39 2 n1 (exCells S), .blk bA 42 [.slice FA fn fc, .map (some bm)], mpR bm tk, .row (.slice FA fn fc) 39 2 fn (exCells fr)] ∧ i ≤ n1 ∧ PtI S i at_) (fun F' L' => 400 - (intOf (F' 30)).toNat) ?_ ?_
  · refine ⟨0, none, 0, 0, 0, ?_⟩
    simp -implicitDefEqProofs (disch := first | omega | decide) only [seval, -Int.reducePow, -Nat.reducePow, cC, pv, binv, sAlLPa1, undef, List.cons_append, List.nil_append, g1]
    exact ⟨rfl, Nat.zero_le _, ⟨fun e he => by have := (hJ.prop e (List.mem_of_mem_drop he)).1; unfold Ext.prop at this; omega⟩⟩
  intro G2 L' hI
  obtain ⟨i, A2, n2, c2, at_, q5, q6, q8, q9, q28, q29, q30, rfl, ⟨hi, hpt⟩⟩ := hI
  have g2_5 := q5.trans g1_5
  have g2_6 := q6.trans g1_6
  have g2_8 := q8
  have g2_9 := q9
  have g2_28 := q28.trans g1_28
  have g2_29 := q29.trans g1_29
  have g2_30 := q30
  clear q5 q6 q8 q9 q28 q29 q30
  have g2 := And.intro g2_5 (And.intro g2_6 (And.intro g2_8 (And.intro g2_9 (And.intro g2_28 (And.intro g2_29 g2_30)))))
  refine cv_seq_k fun K hK => ?_
  refine cv_region_then rfl ?_
  simp -implicitDefEqProofs (disch := first | omega | decide) only [seval, -Int.reducePow, -Nat.reducePow, cC, pv, binv, sAlLPa1, undef, List.cons_append, List.nil_append, g1, g2]
  refine hK _ _ ?_
  clear hK K
  refine cv_seq_k fun K hK => ?_
  refine cv_cond ?_
  simp -implicitDefEqProofs (disch := first | omega | decide) only [seval, -Int.reducePow, -Nat.reducePow, cC, pv, binv, sAlLPa1, undef, List.cons_append, List.nil_append, g1, g2]
  refine ⟨fun hc => ?_, fun hc => ?_⟩
  · refine cv_skip ?_
    try simp only [blockQ, thenQ]
    have hit : i < n1 := by have := of_decide_eq_true ‹decide ((i : Int) < (n1 : Int)) = true›; omega
    refine hK _ _ ?_
    clear hK K
    have hiS : i < S.length := by omega
    obtain ⟨e, he⟩ : ∃ e, Ex.get S i = e := ⟨_, rfl⟩
    have hcx := exCells_two S i hiS
    have hins := parts_step hJ hiS
    rw [he] at hcx hins
    have hem : e ∈ S := by rw [← he, Ex.get_eq hiS]; exact List.getElem_mem _
    have hep := hJ.prop e hem
    unfold Ext.prop at hep
    have hdr : S.drop i = e :: S.drop (i + 1) := by rw [List.drop_eq_getElem_cons hiS, ← he, Ex.get_eq hiS]
    have hat : decide (e.off < at_) = false := decide_eq_false (by have := hpt.le e (by rw [hdr]; exact .head _); omega)
    have hpt2 : PtI S (i + 1) (e.off + e.len) := ⟨fun b hb => by
      have := hends.sublist (List.drop_sublist i S)
      rw [hdr] at this
      exact (List.pairwise_cons.1 this).1 b hb⟩
    have hv : Ex.vld (Ex.setOf (S.take i)) := Ex.setOf_vld (S.take i) [] (fun i hi => by simp at hi) fun e he => (hJ.prop e (List.mem_of_mem_take he)).1
    have hsl2 := Ex.setOf_len (S.take i)
    have htk2 : (S.take i).length ≤ S.length := by rw [List.length_take]; omega
    refine cv_rowA 1 rfl (by omega) fun g hAA hg hNN => ?_
    subst hAA
    simp only [List.eraseIdx_cons_zero, List.eraseIdx_cons_succ, neB_nil, neB_blk, neB_row, neB_snap, and_true, List.not_mem_nil, or_false, sAlLPa1, undef, List.cons_append, List.nil_append] at hNN hg
    replace hg := And.intro hg hNN
    clear hNN
    refine cv_seq_k fun K hK => ?_
    refine cv_block ?_
    refine cv_seq_k fun K hK => ?_
    refine cv_region_then rfl ?_
    simp -implicitDefEqProofs (disch := first | omega | decide) only [seval, -Int.reducePow, -Nat.reducePow, cC, pv, binv, sAlLPa1, undef, List.cons_append, List.nil_append, g1, g2]
    refine ⟨_, ld_row (i := i * 2) (vs := [.int .i64 e.off, .int .i64 e.len]) (.tail _ (.head _)) rfl hcx, fun tok htok => ?_⟩
    subst htok
    simp -implicitDefEqProofs (disch := first | omega | decide) only [seval, -Int.reducePow, -Nat.reducePow, cC, pv, binv, sAlLPa1, undef, List.cons_append, List.nil_append, g1, g2]
    intro b11 hb11 hf11
    refine hK _ _ ?_
    clear hK K
    refine cv_seq_k fun K hK => ?_
    refine cv_region_then rfl ?_
    simp -implicitDefEqProofs (disch := first | omega | decide) only [seval, -Int.reducePow, -Nat.reducePow, cC, pv, binv, sAlLPa1, undef, List.cons_append, List.nil_append, g1, g2]
    refine callV_row (fun A n c => .tuple #[.slice A n c, .int .i64 0]) (fun w hw => (by have := rinsert_any A2 n2 c2 (Ex.setOf (S.take i)) e w (Exts.of_row hw (.tail _ (.head _))) (by have := (Exts.of_row (xs := Ex.setOf (S.take i)) hw (.tail _ (.head _))).len; omega) (fun j hj => Ex.vld_len hv (by have := (Exts.of_row (xs := Ex.setOf (S.take i)) hw (.tail _ (.head _))).len; omega)) (by omega) (by omega); rw [hins] at this; exact this)) ?_
    intro A3 n3 c3 hl3 hr3
    simp -implicitDefEqProofs (disch := first | omega | decide) only [seval, -Int.reducePow, -Nat.reducePow, cC, pv, binv, sAlLPa1, undef, List.cons_append, List.nil_append, g1, g2]
    refine hK _ _ ?_
    clear hK K
    refine cv_seq_k fun K hK => ?_
    refine cv_seq_k fun K hK => ?_
    refine cv_region_then rfl ?_
    simp -implicitDefEqProofs (disch := first | omega | decide) only [seval, -Int.reducePow, -Nat.reducePow, cC, pv, binv, sAlLPa1, undef, List.cons_append, List.nil_append, hat, g1, g2]
    refine hK _ _ ?_
    clear hK K
    refine cv_cond ?_
    simp -implicitDefEqProofs (disch := first | omega | decide) only [seval, -Int.reducePow, -Nat.reducePow, cC, pv, binv, sAlLPa1, undef, List.cons_append, List.nil_append, g1, g2]
    refine cv_skip ?_
    try simp only [blockQ, thenQ]
    refine hK _ _ ?_
    clear hK K
    refine cv_seq_k fun K hK => ?_
    refine cv_region_then rfl ?_
    simp -implicitDefEqProofs (disch := first | omega | decide) only [seval, -Int.reducePow, -Nat.reducePow, cC, pv, binv, sAlLPa1, undef, List.cons_append, List.nil_append, g1, g2]
    refine hK _ _ ?_
    clear hK K
    refine cv_pick_post [0, 3, 4, 5, 6] (by decide) ?_
    refine cv_region_q rfl ?_
    simp -implicitDefEqProofs (disch := first | omega | decide) only [seval, -Int.reducePow, -Nat.reducePow, cC, pv, binv, sAlLPa1, undef, List.cons_append, List.nil_append, g1, g2]
    trace_state
    refine hK _ _ ?_
    clear hK K
    refine cv_region_then rfl ?_
    simp -implicitDefEqProofs (disch := first | omega | decide) only [seval, -Int.reducePow, -Nat.reducePow, cC, pv, binv, sAlLPa1, undef, List.cons_append, List.nil_append, g1, g2]
    refine ⟨⟨i + 1, A3, n3, c3, e.off + e.len, ?_⟩, ?_⟩
    · simp -implicitDefEqProofs (disch := first | omega | decide) only [seval, -Int.reducePow, -Nat.reducePow, cC, pv, binv, sAlLPa1, undef, List.cons_append, List.nil_append, Int.natCast_add, g1, g2]
      exact ⟨by omega, hpt2⟩
    · simp only [intOf]; omega
  refine cv_exit ?_
  simp only [blockQ, thenQ, if_true, ite_true]
  clear hK K
  refine hK _ _ ?_
  clear hK K
  have hit : ¬ i < n1 := by have := of_decide_eq_false ‹decide ((i : Int) < (n1 : Int)) = false›; omega
  rw [List.take_of_length_le (by omega)]
  have hv : Ex.vld (Ex.setOf S) := hJ.set.1
  have hsl2 := Ex.setOf_len S
  refine cv_seq_k fun K hK => ?_
  refine cv_region_then rfl ?_
  simp -implicitDefEqProofs (disch := first | omega | decide) only [seval, -Int.reducePow, -Nat.reducePow, cC, pv, binv, sAlLPa1, undef, List.cons_append, List.nil_append, g1, g2]
  refine callV_row (fun A n c => .tuple #[.slice A n c, .int .i64 0]) (fun w hw => (by have := rcomplement_any A2 n2 c2 (Ex.setOf S) (N : Int) w (Exts.of_row hw (.head _)) (by have := (Exts.of_row (xs := Ex.setOf S) hw (.head _)).len; omega) (fun j hj => Ex.vld_len hv (by have := (Exts.of_row (xs := Ex.setOf S) hw (.head _)).len; omega)); rw [hcF] at this; exact this)) ?_
  intro A4 n4 c4 hl4 hr4
  simp -implicitDefEqProofs (disch := first | omega | decide) only [seval, -Int.reducePow, -Nat.reducePow, cC, pv, binv, sAlLPa1, undef, List.cons_append, List.nil_append, g1, g2]
  refine hK _ _ ?_
  clear hK K
  refine cv_seq_k fun K hK => ?_
  refine cv_region_then rfl ?_
  simp -implicitDefEqProofs (disch := first | omega | decide) only [seval, -Int.reducePow, -Nat.reducePow, cC, pv, binv, sAlLPa1, undef, List.cons_append, List.nil_append, g1, g2]
  refine callV_ret (fun w hw => alAwake_any w) ?_
  try simp -implicitDefEqProofs (disch := first | omega | decide) only [seval, -Int.reducePow, -Nat.reducePow, cC, pv, binv, sAlLPa1, undef, List.cons_append, List.nil_append, g1, g2]
  refine callV_row (fun A n c => .slice A n c) (fun w hw => (aFreeList_any ⟨bA, bm, FA, fn, fc, fr, tk⟩ w (AlW.of (x := ⟨bA, bm, FA, fn, fc, fr, tk⟩) hw 3 4 5 rfl rfl rfl (by dsimp only; omega)))) ?_
  intro A5 n5 c5 hl5 hr5
  dsimp only at hl5
  dsimp only
  simp -implicitDefEqProofs (disch := first | omega | decide) only [seval, -Int.reducePow, -Nat.reducePow, cC, pv, binv, sAlLPa1, undef, List.cons_append, List.nil_append, g1, g2]
  refine callV_ret (fun w hw => esame_any A4 A5 n4 c4 n5 c5 fr w (Exts.of_row hw (nth_mem (k := 1) rfl)) (Exts.of_row hw (.head _)) (by omega)) ?_
  try simp -implicitDefEqProofs (disch := first | omega | decide) only [seval, -Int.reducePow, -Nat.reducePow, cC, pv, binv, sAlLPa1, undef, List.cons_append, List.nil_append, g1, g2]
  refine hK _ _ ?_
  clear hK K
  refine cv_ret ⟨_, (by simp -implicitDefEqProofs (disch := first | omega | decide) only [seval, -Int.reducePow, -Nat.reducePow, cC, pv, binv, sAlLPa1, undef, List.cons_append, List.nil_append, g1, g2]; rfl), fun w hw => ?_⟩
  exact ⟨rfl, hw.below⟩
end Go.Proofs.Ytejogdielfgeoaa
/- AllocatorDrains: the plain law. -/
namespace Go.Proofs.Ytejogdielfgeoaa
open Go.RowKit Go.Shelf
set_option linter.unusedVariables false
set_option linter.unusedSimpArgs false
theorem drain_filter : ∀ {l : List Ext} {k : Nat}, l.Nodup → k < l.length → l.filter (fun x => decide (x ≠ Ex.get l k)) = l.take k ++ l.drop (k + 1)
  | [], k, _, h => by simp at h
  | x :: l, 0, hn, _ => by
    obtain ⟨h1, -⟩ := List.nodup_cons.1 hn
    have e : Ex.get (x :: l) 0 = x := rfl
    rw [e]
    simp only [List.filter_cons, List.take_zero, List.nil_append, List.drop_succ_cons, List.drop_zero]
    rw [if_neg (by simp)]
    exact List.filter_eq_self.2 fun y hy => decide_eq_true (by rintro rfl; exact h1 hy)
  | x :: l, k + 1, hn, h => by
    obtain ⟨h1, h2⟩ := List.nodup_cons.1 hn
    have hk : k < l.length := by simpa using h
    have e : Ex.get (x :: l) (k + 1) = Ex.get l k := by simp [Ex.get]
    have hm : Ex.get l k ∈ l := by rw [Ex.get_eq hk]; exact List.getElem_mem _
    rw [e]
    simp only [List.filter_cons, List.take_succ_cons, List.drop_succ_cons, List.cons_append]
    rw [if_pos (decide_eq_true (by rintro rfl; exact h1 hm)), drain_filter h2 hk]
theorem drain_end {N : Nat} {fr : List Ext} {tk : List (Int × Int)} (h : Ex.Inv (N : Int) [] fr tk) : (N = 0 ∧ fr = []) ∨ (0 < N ∧ fr = [⟨0, (N : Int)⟩]) := by
  have h1 := h.N1
  have hF := Ex.compF_eq (xs := []) (s := (N : Int)) (fun i hi => by simp at hi) (by omega) (by omega) (fun i hi => by simp at hi)
  have := Ex.comp_split [] (N : Int) 0 (Nat.le_refl _)
  simp only [List.length_nil, List.drop_nil] at this hF
  have hfr : fr = Ex.compL 0 [] (N : Int) := by
    rw [h.fr]
    show (Ex.compF [] (N : Int)).1 = _
    rw [hF, ← this]
    rfl
  rcases Nat.eq_zero_or_pos N with h0 | h0
  · refine .inl ⟨h0, ?_⟩
    rw [hfr]
    unfold Ex.compL
    rw [if_neg (by omega)]
  · refine .inr ⟨h0, ?_⟩
    rw [hfr]
    unfold Ex.compL
    rw [if_pos (by omega)]
    simp
end Go.Proofs.Ytejogdielfgeoaa
/- The law AllocatorDrains, walked. -/
namespace Go.Proofs.Ytejogdielfgeoaa
open Go.RowKit Go.Shelf
set_option linter.unusedVariables false
set_option linter.unusedSimpArgs false
set_option maxRecDepth 100000
structure DrI (N : Int) (l : List Ext) (i : Nat) (x : AlR) : Prop where
  inv : Ex.Inv N l x.fr x.tk
  len : l.length + i ≤ 24
set_option maxRecDepth 100000 in
theorem sAlLDr1 : type_of% (And.intro (And.intro @eBox.eq_1 (And.intro @exV.eq_1 @alL.eq_1)) (And.intro (And.intro @Nat.mul_one @wrap_in) (And.intro @cMp @cM))) := (And.intro (And.intro @eBox.eq_1 (And.intro @exV.eq_1 @alL.eq_1)) (And.intro (And.intro @Nat.mul_one @wrap_in) (And.intro @cMp @cM)))
set_option maxHeartbeats 4000000 in
theorem alDrains_walk (W : World) (room : Int) (hr : 0 ≤ room ∧ room ≤ 65535) (A : Option Addr) (n c : Nat) (l : List S3) (hE : Sl W W.heap.size 3 A n c (cl s3V l)) (hb : ∀ s ∈ l, s.ok) (Ao : Option Addr) (no co : Nat) (lo : List Nat) (hO : Sl W W.heap.size 1 Ao no co (byt lo)) (ho : ∀ x ∈ lo, x < 256) :
    Calls Try.prog 6 #[.int .u16 room, .slice A n c, .slice Ao no co] W fun e w' => e = .returned (.bool true) ∧ Below W.heap.size W w' := by
  obtain ⟨N, hN⟩ : ∃ N : Nat, room % 2000 = (N : Int) := ⟨(room % 2000).toNat, by omega⟩
  have hN1 : N ≤ 1048576 := by omega
  refine calls_cv (M := []) (n := 86) [.tmp 6] rfl Try.func6 rfl rfl (Nat.le_of_ble_eq_true rfl) (St.nil _ _) ?_
  refine cv_seq_k fun K hK => ?_
  refine cv_region_then rfl ?_
  simp -implicitDefEqProofs (disch := first | omega | decide) only [seval, -Int.reducePow, -Nat.reducePow, cC, pv, binv, sAlLDr1, undef, List.cons_append, List.nil_append]
  refine hK _ _ ?_
  clear hK K
  refine cv_seq_k fun K hK => ?_
  refine cv_region_then rfl ?_
  simp -implicitDefEqProofs (disch := first | omega | decide) only [seval, -Int.reducePow, -Nat.reducePow, cC, pv, binv, sAlLDr1, undef, List.cons_append, List.nil_append, hN]
  refine hK _ _ ?_
  clear hK K
  refine cv_seq_k fun K hK => ?_
  refine cv_region_then rfl ?_
  simp -implicitDefEqProofs (disch := first | omega | decide) only [seval, -Int.reducePow, -Nat.reducePow, cC, pv, binv, sAlLDr1, undef, List.cons_append, List.nil_append]
  refine callV_grp [] [] (by decide) (fun x : AlR × List Ext => .tuple #[.pointer (some ⟨x.1.bA, 0, none⟩), .bool true]) (fun x => alL x.1) (fun x => Ex.Inv (N : Int) x.2 x.1.fr x.1.tk ∧ x.2.length ≤ 24) (fun w hw hs => alRun_any N hN1 A n c l w (hE.at hw) hb) ?_
  rintro ⟨⟨bA, bm, FA, fn, fc, fr, tk⟩, us⟩ ⟨hI, hl⟩
  dsimp only at hI hl
  have hfl := hI.frLen
  have htl := hI.tkLen
  have hky := hI.keys
  have hJ := srt_inv hI
  have hends := parts_ends hI
  have hsl := srtT_len tk
  obtain ⟨S, hS⟩ : ∃ S, srtT tk = S := ⟨_, rfl⟩
  rw [hS] at hJ hends hsl
  have hcomp := hJ.free.2.2.1
  have hfr := hJ.fr
  have hcF : Ex.compF (Ex.setOf S) (N : Int) = (fr, 0) := Prod.ext hfr.symm hcomp
  simp only [pickL, nth]
  simp -implicitDefEqProofs (disch := first | omega | decide) only [seval, -Int.reducePow, -Nat.reducePow, cC, pv, binv, sAlLDr1, undef, List.cons_append, List.nil_append]
  refine hK _ _ ?_
  clear hK K
  refine cv_seq_k fun K hK => ?_
  refine cv_seq_k fun K hK => ?_
  refine cv_region_then rfl ?_
  simp -implicitDefEqProofs (disch := first | omega | decide) only [seval, -Int.reducePow, -Nat.reducePow, cC, pv, binv, sAlLDr1, undef, List.cons_append, List.nil_append]
  refine hK _ _ ?_
  clear hK K
  refine cv_cond ?_
  simp -implicitDefEqProofs (disch := first | omega | decide) only [seval, -Int.reducePow, -Nat.reducePow, cC, pv, binv, sAlLDr1, undef, List.cons_append, List.nil_append]
  refine cv_skip ?_
  try simp only [blockQ, thenQ]
  refine hK _ _ ?_
  clear hK K
  refine cv_seq_k fun K hK => ?_
  refine cv_region_then rfl ?_
  simp -implicitDefEqProofs (disch := first | omega | decide) only [seval, -Int.reducePow, -Nat.reducePow, cC, pv, binv, sAlLDr1, undef, List.cons_append, List.nil_append]
  refine callV_row (fun A n c => .slice A n c) (fun w hw => (by have := listed_any ⟨bA, bm, FA, fn, fc, fr, tk⟩ (W := w) (AlW.of (x := ⟨bA, bm, FA, fn, fc, fr, tk⟩) hw 0 1 2 rfl rfl rfl (by dsimp only; omega)) (by dsimp only; omega) (fun p hp => by have := hky p hp; omega); dsimp only at this; rw [hS] at this; exact this)) ?_
  intro A1 n1 c1 hl1 hr1
  simp -implicitDefEqProofs (disch := first | omega | decide) only [seval, -Int.reducePow, -Nat.reducePow, cC, pv, binv, sAlLDr1, undef, List.cons_append, List.nil_append]
  refine hK _ _ ?_
  clear hK K
  refine cv_seq_k fun K hK => ?_
  refine cv_seq_k fun K hK => ?_
  refine cv_region_then rfl ?_
  simp -implicitDefEqProofs (disch := first | omega | decide) only [seval, -Int.reducePow, -Nat.reducePow, cC, pv, binv, sAlLDr1, undef, List.cons_append, List.nil_append]
  refine hK _ _ ?_
  clear hK K
  refine cv_gen fun G1 hG => ?_
  have g1_2 := congrFun hG 2
  have g1_7 := congrFun hG 7
  have g1_8 := congrFun hG 8
  have g1_10 := congrFun hG 10
  have g1_11 := congrFun hG 11
  clear hG
  try simp -implicitDefEqProofs (disch := first | omega | decide) only [seval, -Int.reducePow, -Nat.reducePow, cC, pv, binv, sAlLDr1, undef, List.cons_append, List.nil_append] at g1_2 g1_7 g1_8 g1_10 g1_11
  have g1 := And.intro g1_2 (And.intro g1_7 (And.intro g1_8 (And.intro g1_10 g1_11)))
  refine cv_block ?_
  refine cv_loop (fun F' L' => ∃ (i : Nat) (x : AlR) (A1 : Option Addr) (n1 c1 : Nat) (s : List Ext), F' 2 = G1 2 ∧ F' 7 = G1 7 ∧ F' 8 = .pointer (some ⟨x.bA, 0, none⟩) ∧ F' 10 = .slice A1 n1 c1 ∧ F' 11 = .int .i64 (i : Int) ∧ L' = .row (.slice A1 n1 c1) 39 2 n1 (exCells s) :: alL x ∧ DrI (N : Int) s i x) (fun F' L' => 400 - (intOf (F' 11)).toNat) ?_ ?_
  · refine ⟨0, ⟨bA, bm, FA, fn, fc, fr, tk⟩, A1, n1, c1, S, ?_⟩
    simp -implicitDefEqProofs (disch := first | omega | decide) only [seval, -Int.reducePow, -Nat.reducePow, cC, pv, binv, sAlLDr1, undef, List.cons_append, List.nil_append, g1]
    exact ⟨hJ, by omega⟩
  intro G2 L' hI
  obtain ⟨i, x, A1, n1, c1, s, q2, q7, q8, q10, q11, rfl, ⟨hJ2, hli⟩⟩ := hI
  have g2_2 := q2.trans g1_2
  have g2_7 := q7.trans g1_7
  have g2_8 := q8
  have g2_10 := q10
  have g2_11 := q11
  clear q2 q7 q8 q10 q11
  have g2 := And.intro g2_2 (And.intro g2_7 (And.intro g2_8 (And.intro g2_10 g2_11)))
  have hnd := hJ2.nodup
  have hf2 := hJ2.frLen
  refine cv_fact (s.length = n1) (fun w hw => (Exts.of_row (xs := s) hw (.head _)).len) fun hn1 => ?_
  refine cv_seq_k fun K hK => ?_
  refine cv_seq_k fun K hK => ?_
  refine cv_region_then rfl ?_
  simp -implicitDefEqProofs (disch := first | omega | decide) only [seval, -Int.reducePow, -Nat.reducePow, cC, pv, binv, sAlLDr1, undef, List.cons_append, List.nil_append, g1, g2]
  refine hK _ _ ?_
  clear hK K
  refine cv_cond ?_
  simp -implicitDefEqProofs (disch := first | omega | decide) only [seval, -Int.reducePow, -Nat.reducePow, cC, pv, binv, sAlLDr1, undef, List.cons_append, List.nil_append, g1, g2]
  refine ⟨fun hc => ?_, fun hc => ?_⟩
  · refine cv_skip ?_
    try simp only [blockQ, thenQ]
    have hpos : 0 < n1 := by have := of_decide_eq_true ‹decide ((0 : Int) < (n1 : Int)) = true›; omega
    refine hK _ _ ?_
    clear hK K
    refine cv_rowA 0 rfl (by omega) fun g hAA hg hNN => ?_
    subst hAA
    simp only [List.eraseIdx_cons_zero, List.eraseIdx_cons_succ, neB_nil, neB_blk, neB_row, neB_snap, and_true, List.not_mem_nil, or_false, sAlLDr1, undef, List.cons_append, List.nil_append] at hNN hg
    replace hg := And.intro hg hNN
    clear hNN
    refine cv_seq_k fun K hK => ?_
    refine cv_block ?_
    refine cv_seq_k fun K hK => ?_
    refine cv_region_then rfl ?_
    simp -implicitDefEqProofs (disch := first | omega | decide) only [seval, -Int.reducePow, -Nat.reducePow, cC, pv, binv, sAlLDr1, undef, List.cons_append, List.nil_append, g1, g2]
    refine hK _ _ ?_
    clear hK K
    refine cv_seq_k fun K hK => ?_
    refine cv_cut (fun _ _ => True) (fun F' L' => ∃ (k : Nat), F' 2 = G2 2 ∧ F' 7 = G2 7 ∧ F' 8 = G2 8 ∧ F' 10 = G2 10 ∧ F' 11 = G2 11 ∧ F' 12 = .int .i64 (k : Int) ∧ L' = .row (.slice (some ⟨g, 0, none⟩) n1 c1) 39 2 n1 (exCells s) :: alL x ∧ k < n1) ?_ ?_
    · refine cv_seq_k fun K hK => ?_
      refine cv_region_then rfl ?_
      simp -implicitDefEqProofs (disch := first | omega | decide) only [seval, -Int.reducePow, -Nat.reducePow, cC, pv, binv, sAlLDr1, undef, List.cons_append, List.nil_append, g1, g2]
      refine hK _ _ ?_
      clear hK K
      refine cv_cond ?_
      simp -implicitDefEqProofs (disch := first | omega | decide) only [seval, -Int.reducePow, -Nat.reducePow, cC, pv, binv, sAlLDr1, undef, List.cons_append, List.nil_append, g1, g2]
      refine ⟨fun hc => ?_, fun hc => ?_⟩
      · have hin : i < no := by have := of_decide_eq_true ‹decide ((i : Int) < (no : Int)) = true›; omega
        obtain ⟨bF, oF, rfl, hbF, -⟩ := hO.cells (by omega)
        have hlo : lo.length = no := by have := hO.len; simp [byt] at this; omega
        obtain ⟨v, hv⟩ : ∃ v, lo[i]? = some v := ⟨_, List.getElem?_eq_getElem (by omega)⟩
        have hbv : (byt lo)[i]? = some (.int .u8 (v : Int)) := by unfold byt; rw [List.getElem?_map, hv]; rfl
        have hv2 := ho v (List.mem_of_getElem? hv)
        obtain ⟨k, hk⟩ : ∃ k : Nat, (v : Int) % (n1 : Int) = (k : Int) := ⟨v % n1, by rw [Int.natCast_emod]⟩
        have hkn : k < n1 := by
          have := Int.emod_lt_of_pos (v : Int) (show (0 : Int) < n1 by omega)
          omega
        refine cv_apart fun hap => ?_
        simp only [factL_nil, factL_blk, factL_row, neR_nil, neR_blk, neR_row, neB_nil, neB_blk, neB_row, and_true, true_and, List.not_mem_nil, or_false, sAlLDr1, undef, List.cons_append, List.nil_append] at hap
        obtain hap := hap
        refine cv_region_q rfl ?_
        simp -implicitDefEqProofs (disch := first | omega | decide) only [seval, -Int.reducePow, -Nat.reducePow, cC, pv, binv, sAlLDr1, undef, List.cons_append, List.nil_append, hk, g1, g2]
        refine ⟨_, hO.ld1 (m := 1) (i := i) (by kernel_rfl) hbv, fun tok htok => ?_⟩
        subst htok
        simp -implicitDefEqProofs (disch := first | omega | decide) only [seval, -Int.reducePow, -Nat.reducePow, cC, pv, binv, sAlLDr1, undef, List.cons_append, List.nil_append, hk, g1, g2]
        exact ⟨k, rfl, hkn⟩
      · refine cv_skip ?_
        try simp only [blockQ, thenQ]
        refine ⟨0, ?_⟩
        simp -implicitDefEqProofs (disch := first | omega | decide) only [seval, -Int.reducePow, -Nat.reducePow, cC, pv, binv, sAlLDr1, undef, List.cons_append, List.nil_append, g1, g2]
        exact hpos
    intro G3 L' _ hF
    obtain ⟨k, q2, q7, q8, q10, q11, q12, rfl, hk⟩ := hF
    have g3_2 := q2.trans g2_2
    have g3_7 := q7.trans g2_7
    have g3_8 := q8.trans g2_8
    have g3_10 := q10.trans g2_10
    have g3_11 := q11.trans g2_11
    have g3_12 := q12
    clear q2 q7 q8 q10 q11 q12
    have g3 := And.intro g3_2 (And.intro g3_7 (And.intro g3_8 (And.intro g3_10 (And.intro g3_11 g3_12))))
    refine hK _ _ ?_
    clear hK K
    have hkS : k < s.length := by omega
    obtain ⟨e, he⟩ : ∃ e, Ex.get s k = e := ⟨_, rfl⟩
    have hcx := exCells_two s k hkS
    have hdf := drain_filter hnd hkS
    rw [he] at hcx hdf
    refine cv_fact (n1 ≤ c1 ∧ c1 ≤ 9223372036854775807) (fun w hw => ⟨(Exts.of_row (xs := s) hw (.head _)).cap, (Exts.of_row (xs := s) hw (.head _)).max⟩) fun hcap => ?_
    have hem : e ∈ s := by rw [← he, Ex.get_eq hkS]; exact List.getElem_mem _
    refine cv_seq_k fun K hK => ?_
    refine cv_seq_k fun K hK => ?_
    refine cv_region_then rfl ?_
    simp -implicitDefEqProofs (disch := first | omega | decide) only [seval, -Int.reducePow, -Nat.reducePow, cC, pv, binv, sAlLDr1, undef, List.cons_append, List.nil_append, g1, g2, g3]
    refine ⟨_, ld_row (i := k * 2) (vs := [.int .i64 e.off, .int .i64 e.len]) (.head _) rfl hcx, fun tok htok => ?_⟩
    subst htok
    simp -implicitDefEqProofs (disch := first | omega | decide) only [seval, -Int.reducePow, -Nat.reducePow, cC, pv, binv, sAlLDr1, undef, List.cons_append, List.nil_append, g1, g2, g3]
    refine callV_grp [1, 2, 3] [0] (by decide) (fun _ : AlR => .int .i64 0) (fun y => alL y) (fun y => y.bA = x.bA ∧ Ex.Inv (N : Int) (s.take k ++ s.drop (k + 1)) y.fr y.tk) (fun w hw hs => by
      have := aFree_any x (N : Int) s e w hs hJ2 (by omega)
      rw [if_pos hem, hdf] at this
      refine this.mono ?_
      rintro en w' ⟨y, rfl, ⟨h1, -, h3⟩, h4⟩
      exact ⟨y, rfl, ⟨h1, h3 hem⟩, h4⟩) ?_
    rintro y ⟨hy1, hy2⟩
    simp only [pickL, nth]
    simp -implicitDefEqProofs (disch := first | omega | decide) only [seval, -Int.reducePow, -Nat.reducePow, cC, pv, binv, sAlLDr1, undef, List.cons_append, List.nil_append, g1, g2, g3]
    refine hK _ _ ?_
    clear hK K
    refine cv_cond ?_
    simp -implicitDefEqProofs (disch := first | omega | decide) only [seval, -Int.reducePow, -Nat.reducePow, cC, pv, binv, sAlLDr1, undef, List.cons_append, List.nil_append, g1, g2, g3]
    refine cv_skip ?_
    try simp only [blockQ, thenQ]
    refine hK _ _ ?_
    clear hK K
    refine cv_q ?_
    refine cv_draw_of (pickL [] _) (fun w hw => hw.pick (by decide)) (by simp only [pickL, nth, suf_cons, suf_nil, List.mem_cons, true_or, or_true, and_true, eq_self]) [(true, 1), (true, 2), (true, 3), (true, 5), (true, 6), (true, 7), (true, 8), (false, 0), (false, 4), (false, 9), (true, 10)] [] mixA rfl (by kernel_rfl) (by kernel_rfl) rfl rfl ?_
    simp -implicitDefEqProofs (disch := first | omega | decide) only [seval, -Int.reducePow, -Nat.reducePow, cC, pv, binv, sAlLDr1, undef, List.cons_append, List.nil_append, g1, g2, g3]
    intro b51 hb51 hf51
    refine appV_lit 0 tap29 rfl rfl (fun w hw => ((Exts.of_row (xs := s) hw (nth_mem (k := 4) rfl)).take (k := k) (by omega)).reads) (ones_exCells _) (by omega) (by omega) ?_
    intro A6 c6 hl6 hr6
    simp -implicitDefEqProofs (disch := first | omega | decide) only [seval, -Int.reducePow, -Nat.reducePow, cC, pv, binv, sAlLDr1, undef, List.cons_append, List.nil_append, Nat.zero_add, List.nil_append, g1, g2, g3]
    refine appV_at 0 tap29 rfl (fun w hw => ((Exts.of_row (xs := s) hw (nth_mem (k := 4) rfl)).drop (k := k + 1) (by omega)).reads) (ones_exCells _) (by omega) (by omega) ?_
    intro A7 c7 hl7 hr7
    simp -implicitDefEqProofs (disch := first | omega | decide) only [seval, -Int.reducePow, -Nat.reducePow, cC, pv, binv, sAlLDr1, undef, List.cons_append, List.nil_append, g1, g2, g3]
    refine hK _ _ ?_
    clear hK K
    refine cv_pick [0, 1, 2, 3] (by decide) ?_
    simp only [pickL, nth]
    refine cv_region_then rfl ?_
    simp -implicitDefEqProofs (disch := first | omega | decide) only [seval, -Int.reducePow, -Nat.reducePow, cC, pv, binv, sAlLDr1, undef, List.cons_append, List.nil_append, g1, g2, g3]
    refine ⟨⟨i + 1, y, A7, k + (n1 - ((k : Int) + 1).toNat), c7, s.take k ++ s.drop (k + 1), ?_⟩, ?_⟩
    rotate_left
    · simp only [intOf]; omega
    · simp -implicitDefEqProofs (disch := first | omega | decide) only [seval, -Int.reducePow, -Nat.reducePow, cC, pv, binv, sAlLDr1, undef, List.cons_append, List.nil_append, Int.natCast_add, exCells_app, hy1, g1, g2, g3]
      exact ⟨hy2, by simp; omega⟩
  refine cv_exit ?_
  simp only [blockQ, thenQ, if_true, ite_true]
  clear hK K
  refine hK _ _ ?_
  clear hK K
  have hz : n1 = 0 := by have := of_decide_eq_false ‹decide ((0 : Int) < (n1 : Int)) = false›; omega
  obtain rfl : s = [] := List.eq_nil_of_length_eq_zero (by omega)
  have hend := drain_end hJ2
  refine cv_seq_k fun K hK => ?_
  refine cv_region_then rfl ?_
  simp -implicitDefEqProofs (disch := first | omega | decide) only [seval, -Int.reducePow, -Nat.reducePow, cC, pv, binv, sAlLDr1, undef, List.cons_append, List.nil_append, g1, g2]
  refine callV_row (fun A n c => .slice A n c) (fun w hw => (aFreeList_any x w (AlW.of (x := x) hw 1 2 3 rfl rfl rfl (by simp at hf2; omega)))) ?_
  intro A5 n5 c5 hl5 hr5
  simp -implicitDefEqProofs (disch := first | omega | decide) only [seval, -Int.reducePow, -Nat.reducePow, cC, pv, binv, sAlLDr1, undef, List.cons_append, List.nil_append, g1, g2]
  refine hK _ _ ?_
  clear hK K
  refine cv_gen fun G4 hG => ?_
  have g4_7 := congrFun hG 7
  have g4_13 := congrFun hG 13
  clear hG
  try simp -implicitDefEqProofs (disch := first | omega | decide) only [seval, -Int.reducePow, -Nat.reducePow, cC, pv, binv, sAlLDr1, undef, List.cons_append, List.nil_append, g1, g2] at g4_7 g4_13
  have g4 := And.intro g4_7 g4_13
  rcases hend with ⟨hN0, hfr⟩ | ⟨hN0, hfr⟩
  · skip
    rw [hfr] at hl5
    obtain rfl : n5 = 0 := by simp [exCells] at hl5; omega
    subst hN0
    refine cv_seq_k fun K hK => ?_
    refine cv_region_then rfl ?_
    simp -implicitDefEqProofs (disch := first | omega | decide) only [seval, -Int.reducePow, -Nat.reducePow, cC, pv, binv, sAlLDr1, undef, List.cons_append, List.nil_append, g1, g2, g4]
    refine callV_ret (fun w hw => alAwake_any w) ?_
    try simp -implicitDefEqProofs (disch := first | omega | decide) only [seval, -Int.reducePow, -Nat.reducePow, cC, pv, binv, sAlLDr1, undef, List.cons_append, List.nil_append, g1, g2, g4]
    refine hK _ _ ?_
    clear hK K
    refine cv_ret ⟨_, (by simp -implicitDefEqProofs (disch := first | omega | decide) only [seval, -Int.reducePow, -Nat.reducePow, cC, pv, binv, sAlLDr1, undef, List.cons_append, List.nil_append, g1, g2, g4]; rfl), fun w hw => ?_⟩
    exact ⟨rfl, hw.below⟩
  · skip
    rw [hfr] at hl5
    obtain rfl : n5 = 1 := by simp [exCells] at hl5; omega
    have hNN : decide ((N : Int) = 0) = false := decide_eq_false (by omega)
    rw [hfr]
    refine cv_rowA 0 rfl (by omega) fun g5 hAA hg5 hNN => ?_
    subst hAA
    simp only [List.eraseIdx_cons_zero, List.eraseIdx_cons_succ, neB_nil, neB_blk, neB_row, neB_snap, and_true, List.not_mem_nil, or_false, sAlLDr1, undef, List.cons_append, List.nil_append] at hNN hg5
    replace hg5 := And.intro hg5 hNN
    clear hNN
    refine cv_seq_k fun K hK => ?_
    refine cv_region_then rfl ?_
    simp -implicitDefEqProofs (disch := first | omega | decide) only [seval, -Int.reducePow, -Nat.reducePow, cC, pv, binv, sAlLDr1, undef, List.cons_append, List.nil_append, hNN, g1, g2, g4]
    refine callV_ret (fun w hw => alAwake_any w) ?_
    try simp -implicitDefEqProofs (disch := first | omega | decide) only [seval, -Int.reducePow, -Nat.reducePow, cC, pv, binv, sAlLDr1, undef, List.cons_append, List.nil_append, hNN, g1, g2, g4]
    refine ⟨_, ld_row (i := 0) (vs := [.int .i64 0, .int .i64 (N : Int)]) (.head _) rfl rfl, fun tok htok => ?_⟩
    subst htok
    simp -implicitDefEqProofs (disch := first | omega | decide) only [seval, -Int.reducePow, -Nat.reducePow, cC, pv, binv, sAlLDr1, undef, List.cons_append, List.nil_append, hNN, g1, g2, g4]
    refine hK _ _ ?_
    clear hK K
    refine cv_ret ⟨_, (by simp -implicitDefEqProofs (disch := first | omega | decide) only [seval, -Int.reducePow, -Nat.reducePow, cC, pv, binv, sAlLDr1, undef, List.cons_append, List.nil_append, g1, g2, g4]; rfl), fun w hw => ?_⟩
    exact ⟨rfl, hw.below⟩
end Go.Proofs.Ytejogdielfgeoaa
