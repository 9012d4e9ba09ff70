/- Reading modules: bytes' functions, the reader's numbers. -/
import Derived.Test.YtehfnjaompkikaaMDPlain
import Derived.Test.YtehfnjaompkikaaDec
import Derived.Test.YtehfnjaompkikaaMk
namespace Go.Proofs.Ytehfnjaompkikaa
open Go.RowKit Go.Shelf
set_option linter.unusedVariables false
set_option linter.unusedSimpArgs false
set_option maxRecDepth 100000
theorem equal_any (A B : Option Addr) (n c m d : Nat) (l k : List Nat) (W : World) (hE : Sl W W.heap.size 1 A n c (byt l)) (hF : Sl W W.heap.size 1 B m d (byt k)) (hl : ∀ x ∈ l, x < 256) (hk : ∀ x ∈ k, x < 256) :
    Calls Try.prog 70 #[.slice A n c, .slice B m d] W fun e w' => e = .returned (.bool (decide (l = k))) ∧ Below W.heap.size W w' := by
  refine calls_cv (M := []) (n := 10) [.tmp 4] rfl Try.func70 rfl rfl (Nat.le_of_ble_eq_true rfl) (St.nil _ _) ?_
  refine cv_seq_k fun K hK => ?_
  refine cv_region_then rfl ?_
  simp -implicitDefEqProofs (disch := first | omega | decide) only [seval, -Int.reducePow, -Nat.reducePow, cA, cB, pv, binv, fresh, thenQ, blockQ, retQ, Value.oneCell', Value.cells, undef, Nat.mul_one]
  refine hK _ _ ?_
  clear hK K
  refine cv_seq_k fun K hK => ?_
  refine cv_region_then rfl ?_
  simp -implicitDefEqProofs (disch := first | omega | decide) only [seval, -Int.reducePow, -Nat.reducePow, cA, cB, pv, binv, fresh, thenQ, blockQ, retQ, Value.oneCell', Value.cells, undef, Nat.mul_one]
  refine ⟨_, fun w hw => (hE.at hw).reads, fun tok htok => ?_⟩
  subst htok
  simp -implicitDefEqProofs (disch := first | omega | decide) only [seval, -Int.reducePow, -Nat.reducePow, cA, cB, pv, binv, fresh, thenQ, blockQ, retQ, Value.oneCell', Value.cells, undef, Nat.mul_one]
  refine ⟨_, fun w hw => (hF.at hw).reads, fun tok htok => ?_⟩
  subst htok
  simp -implicitDefEqProofs (disch := first | omega | decide) only [seval, -Int.reducePow, -Nat.reducePow, cA, cB, pv, binv, fresh, thenQ, blockQ, retQ, Value.oneCell', Value.cells, undef, Nat.mul_one]
  refine hK _ _ ?_
  clear hK K
  refine cv_ret ⟨_, (by simp -implicitDefEqProofs (disch := first | omega | decide) only [seval, -Int.reducePow, -Nat.reducePow, cA, cB, pv, binv, fresh, thenQ, blockQ, retQ, Value.oneCell', Value.cells, undef, Nat.mul_one]; rfl), fun w hw => ?_⟩
  rw [bstr_beq hl hk]
  exact ⟨rfl, hw.below⟩
theorem hasPrefix_any (A B : Option Addr) (n c m d : Nat) (l k : List Nat) (W : World) (hE : Sl W W.heap.size 1 A n c (byt l)) (hF : Sl W W.heap.size 1 B m d (byt k)) (hl : ∀ x ∈ l, x < 256) (hk : ∀ x ∈ k, x < 256) :
    Calls Try.prog 54 #[.slice A n c, .slice B m d] W fun e w' => e = .returned (.bool (decide (l.take k.length = k))) ∧ Below W.heap.size W w' := by
  have hln : l.length = n := byt_row hE.len
  have hkm : k.length = m := byt_row hF.len
  have hcap := hE.cap
  have hmax := hE.max
  refine calls_cv (M := []) (n := 18) [.tmp 4] rfl Try.func54 rfl rfl (Nat.le_of_ble_eq_true rfl) (St.nil _ _) ?_
  refine cv_seq_k fun K hK => ?_
  refine cv_region_then rfl ?_
  simp -implicitDefEqProofs (disch := first | omega | decide) only [seval, -Int.reducePow, -Nat.reducePow, cA, cB, pv, binv, fresh, thenQ, blockQ, retQ, Value.oneCell', Value.cells, undef, Nat.mul_one]
  refine hK _ _ ?_
  clear hK K
  by_cases h : m ≤ n
  · have hd : decide ((m : Int) ≤ (n : Int)) = true := decide_eq_true (by omega)
    refine cv_seq_k fun K hK => ?_
    refine cv_region_then rfl ?_
    simp -implicitDefEqProofs (disch := first | omega | decide) only [seval, -Int.reducePow, -Nat.reducePow, cA, cB, pv, binv, fresh, thenQ, blockQ, retQ, Value.oneCell', Value.cells, undef, Nat.mul_one, hd]
    refine callV_ret (fun w hw => equal_any A B m c m d (l.take m) k w ((hE.at hw).btake h) (hF.at hw) (fun x hx => hl x (List.mem_of_mem_take hx)) hk) ?_
    try simp -implicitDefEqProofs (disch := first | omega | decide) only [seval, -Int.reducePow, -Nat.reducePow, cA, cB, pv, binv, fresh, thenQ, blockQ, retQ, Value.oneCell', Value.cells, undef, Nat.mul_one, hd]
    refine hK _ _ ?_
    clear hK K
    refine cv_ret ⟨_, (by simp -implicitDefEqProofs (disch := first | omega | decide) only [seval, -Int.reducePow, -Nat.reducePow, cA, cB, pv, binv, fresh, thenQ, blockQ, retQ, Value.oneCell', Value.cells, undef, Nat.mul_one]; rfl), fun w hw => ?_⟩
    rw [hkm]
    exact ⟨rfl, hw.below⟩
  · have hd : decide ((m : Int) ≤ (n : Int)) = false := decide_eq_false (by omega)
    refine cv_seq_k fun K hK => ?_
    refine cv_region_then rfl ?_
    simp -implicitDefEqProofs (disch := first | omega | decide) only [seval, -Int.reducePow, -Nat.reducePow, cA, cB, pv, binv, fresh, thenQ, blockQ, retQ, Value.oneCell', Value.cells, undef, Nat.mul_one, hd]
    refine hK _ _ ?_
    clear hK K
    refine cv_ret ⟨_, (by simp -implicitDefEqProofs (disch := first | omega | decide) only [seval, -Int.reducePow, -Nat.reducePow, cA, cB, pv, binv, fresh, thenQ, blockQ, retQ, Value.oneCell', Value.cells, undef, Nat.mul_one]; rfl), fun w hw => ?_⟩
    rw [decide_eq_false (fun e => ?_)]
    · exact ⟨rfl, hw.below⟩
    · have := congrArg List.length e
      rw [List.length_take] at this
      omega
theorem cutPrefix_any (A B : Option Addr) (n c m d : Nat) (l k : List Nat) (W : World) (hE : Sl W W.heap.size 1 A n c (byt l)) (hF : Sl W W.heap.size 1 B m d (byt k)) (hl : ∀ x ∈ l, x < 256) (hk : ∀ x ∈ k, x < 256) :
    Calls Try.prog 36 #[.slice A n c, .slice B m d] W fun e w' => e = .returned (if l.take k.length = k then .tuple #[.slice (sbase c m 1 A) (n - m) (c - m), .bool true] else .tuple #[.slice A n c, .bool false]) ∧ Below W.heap.size W w' := by
  have hln : l.length = n := byt_row hE.len
  have hkm : k.length = m := byt_row hF.len
  have hcap := hE.cap
  have hmax := hE.max
  refine calls_cv (M := []) (n := 15) [.tmp 4, .tmp 5] rfl Try.func36 rfl rfl (Nat.le_of_ble_eq_true rfl) (St.nil _ _) ?_
  refine cv_seq_k fun K hK => ?_
  refine cv_region_then rfl ?_
  simp -implicitDefEqProofs (disch := first | omega | decide) only [seval, -Int.reducePow, -Nat.reducePow, cA, cB, pv, binv, fresh, thenQ, blockQ, retQ, Value.oneCell', Value.cells, undef, Nat.mul_one]
  refine hK _ _ ?_
  clear hK K
  refine cv_seq_k fun K hK => ?_
  refine cv_seq_k fun K hK => ?_
  refine cv_region_then rfl ?_
  simp -implicitDefEqProofs (disch := first | omega | decide) only [seval, -Int.reducePow, -Nat.reducePow, cA, cB, pv, binv, fresh, thenQ, blockQ, retQ, Value.oneCell', Value.cells, undef, Nat.mul_one]
  refine callV_ret (fun w hw => hasPrefix_any A B n c m d l k w (hE.at hw) (hF.at hw) hl hk) ?_
  try simp -implicitDefEqProofs (disch := first | omega | decide) only [seval, -Int.reducePow, -Nat.reducePow, cA, cB, pv, binv, fresh, thenQ, blockQ, retQ, Value.oneCell', Value.cells, undef, Nat.mul_one]
  refine hK _ _ ?_
  clear hK K
  refine cv_cond ?_
  simp -implicitDefEqProofs (disch := first | omega | decide) only [seval, -Int.reducePow, -Nat.reducePow, cA, cB, pv, binv, fresh, thenQ, blockQ, retQ, Value.oneCell', Value.cells, undef, Nat.mul_one]
  refine ⟨fun hc => ?_, fun hc => ?_⟩
  · have h : ¬ l.take k.length = k := by simpa using hc
    refine cv_seq_k fun K hK => ?_
    refine cv_region_then rfl ?_
    simp -implicitDefEqProofs (disch := first | omega | decide) only [seval, -Int.reducePow, -Nat.reducePow, cA, cB, pv, binv, fresh, thenQ, blockQ, retQ, Value.oneCell', Value.cells, undef, Nat.mul_one]
    refine hK _ _ ?_
    clear hK K
    refine cv_ret ⟨_, (by simp -implicitDefEqProofs (disch := first | omega | decide) only [seval, -Int.reducePow, -Nat.reducePow, cA, cB, pv, binv, fresh, thenQ, blockQ, retQ, Value.oneCell', Value.cells, undef, Nat.mul_one]; rfl), fun w hw => ?_⟩
    rw [if_neg h]
    exact ⟨rfl, hw.below⟩
  have h : l.take k.length = k := by simpa using hc
  have hmn : m ≤ n := by
    have := congrArg List.length h
    rw [List.length_take] at this
    omega
  refine cv_skip ?_
  try simp only [blockQ, thenQ]
  refine hK _ _ ?_
  clear hK K
  refine cv_seq_k fun K hK => ?_
  refine cv_region_then rfl ?_
  simp -implicitDefEqProofs (disch := first | omega | decide) only [seval, -Int.reducePow, -Nat.reducePow, cA, cB, pv, binv, fresh, thenQ, blockQ, retQ, Value.oneCell', Value.cells, undef, Nat.mul_one]
  refine hK _ _ ?_
  clear hK K
  refine cv_ret ⟨_, (by simp -implicitDefEqProofs (disch := first | omega | decide) only [seval, -Int.reducePow, -Nat.reducePow, cA, cB, pv, binv, fresh, thenQ, blockQ, retQ, Value.oneCell', Value.cells, undef, Nat.mul_one]; rfl), fun w hw => ?_⟩
  rw [if_pos h]
  exact ⟨rfl, hw.below⟩
/-! ## The reader -/
def mrC (A : Option Addr) (n c : Nat) (err : Int) : List Value := [.slice A n c, .int .i64 err]
def mrB (r : Nat) (A : Option Addr) (n c : Nat) (err : Int) : Res := .blk r 84 [.slice A n c, .int .i64 err]
theorem took_any (r : Nat) (A : Option Addr) (n c k k' : Nat) (e : Int) (W : World) (hW : W.heap[r]? = some (.cells (mrC A n c 0).toArray 84 (0, 0))) (hk : e = 0 → k ≤ n) (hcap : n ≤ c) (hmax : c ≤ 9223372036854775807) (hk' : k' = if e = 0 then k else 0) :
    Calls Try.prog 57 #[.pointer (some ⟨r, 0, none⟩), .int .i64 (k : Int), .int .i64 e] W (modP r 84 (.bool (decide (e = 0))) (mrC (sbase c k' 1 A) (n - k') (c - k') e) W) := by
  refine calls_cv (M := [r]) (n := 22) [.tmp 6] rfl Try.func57 rfl rfl (Nat.le_of_ble_eq_true rfl)  (St.one hW) ?_
  refine cv_seq_k fun K hK => ?_
  refine cv_region_then rfl ?_
  simp -implicitDefEqProofs (disch := first | omega | decide) only [seval, -Int.reducePow, -Nat.reducePow, cA, cB, pv, binv, fresh, thenQ, blockQ, retQ, Value.oneCell', Value.cells, undef, Nat.mul_one, mrC, mrB, uV]
  refine hK _ _ ?_
  clear hK K
  refine cv_seq_k fun K hK => ?_
  refine cv_seq_k fun K hK => ?_
  refine cv_region_then rfl ?_
  simp -implicitDefEqProofs (disch := first | omega | decide) only [seval, -Int.reducePow, -Nat.reducePow, cA, cB, pv, binv, fresh, thenQ, blockQ, retQ, Value.oneCell', Value.cells, undef, Nat.mul_one, mrC, mrB, uV]
  refine hK _ _ ?_
  clear hK K
  refine cv_cond ?_
  simp -implicitDefEqProofs (disch := first | omega | decide) only [seval, -Int.reducePow, -Nat.reducePow, cA, cB, pv, binv, fresh, thenQ, blockQ, retQ, Value.oneCell', Value.cells, undef, Nat.mul_one, mrC, mrB, uV]
  refine ⟨fun hc => ?_, fun hc => ?_⟩
  · have he : ¬ e = 0 := by simpa using hc
    rw [if_neg he] at hk'
    subst hk'
    refine cv_seq_k fun K hK => ?_
    refine cv_region_then rfl ?_
    simp -implicitDefEqProofs (disch := first | omega | decide) only [seval, -Int.reducePow, -Nat.reducePow, cA, cB, pv, binv, fresh, thenQ, blockQ, retQ, Value.oneCell', Value.cells, undef, Nat.mul_one, mrC, mrB, uV]
    refine hK _ _ ?_
    clear hK K
    refine cv_seq_k fun K hK => ?_
    refine cv_region_then rfl ?_
    simp -implicitDefEqProofs (disch := first | omega | decide) only [seval, -Int.reducePow, -Nat.reducePow, cA, cB, pv, binv, fresh, thenQ, blockQ, retQ, Value.oneCell', Value.cells, undef, Nat.mul_one, mrC, mrB, uV]
    refine hK _ _ ?_
    clear hK K
    refine cv_ret ⟨_, (by simp -implicitDefEqProofs (disch := first | omega | decide) only [seval, -Int.reducePow, -Nat.reducePow, cA, cB, pv, binv, fresh, thenQ, blockQ, retQ, Value.oneCell', Value.cells, undef, Nat.mul_one, mrC, mrB, uV]; rfl), fun w hw => ?_⟩
    rw [sbase_zero, decide_eq_false he]
    exact ⟨rfl, hw.hold 0 rfl, hw.pres⟩
  have he : e = 0 := by simpa using hc
  rw [if_pos he] at hk'
  subst hk' he
  have hk2 := hk rfl
  refine cv_skip ?_
  try simp only [blockQ, thenQ]
  refine hK _ _ ?_
  clear hK K
  refine cv_seq_k fun K hK => ?_
  refine cv_region_then rfl ?_
  simp -implicitDefEqProofs (disch := first | omega | decide) only [seval, -Int.reducePow, -Nat.reducePow, cA, cB, pv, binv, fresh, thenQ, blockQ, retQ, Value.oneCell', Value.cells, undef, Nat.mul_one, mrC, mrB, uV]
  refine hK _ _ ?_
  clear hK K
  refine cv_seq_k fun K hK => ?_
  refine cv_region_then rfl ?_
  simp -implicitDefEqProofs (disch := first | omega | decide) only [seval, -Int.reducePow, -Nat.reducePow, cA, cB, pv, binv, fresh, thenQ, blockQ, retQ, Value.oneCell', Value.cells, undef, Nat.mul_one, mrC, mrB, uV]
  refine hK _ _ ?_
  clear hK K
  refine cv_ret ⟨_, (by simp -implicitDefEqProofs (disch := first | omega | decide) only [seval, -Int.reducePow, -Nat.reducePow, cA, cB, pv, binv, fresh, thenQ, blockQ, retQ, Value.oneCell', Value.cells, undef, Nat.mul_one, mrC, mrB, uV]; rfl), fun w hw => ?_⟩
  exact ⟨rfl, hw.hold 0 rfl, hw.pres⟩
set_option maxHeartbeats 2000000 in
theorem mnumber_any (r : Nat) (A : Option Addr) (n c : Nat) (l : List Nat) (most : Nat) (err : Int) (W : World) (hW : W.heap[r]? = some (.cells (mrC A n c err).toArray 84 (0, 0))) (hE : Sl W W.heap.size 1 A n c (byt l)) (ha : 0 < n → Apt A [r]) (hb : ∀ x ∈ l, x < 256) (hm : most ≤ 1000000) :
    Calls Try.prog 55 #[.pointer (some ⟨r, 0, none⟩), .int .i64 (most : Int)] W (modP r 84 (.int .i64 ((numE err l most).1 : Int)) (mrC (sbase c (numE err l most).2.1 1 A) (n - (numE err l most).2.1) (c - (numE err l most).2.1) (numE err l most).2.2) W) := by
  have hln : l.length = n := byt_row hE.len
  have hcap := hE.cap
  have hmax := hE.max
  have em := i64v most (by omega)
  refine calls_cv (M := [r]) (n := 37) [.tmp 4] rfl Try.func55 rfl rfl (Nat.le_of_ble_eq_true rfl)  (St.one hW) ?_
  refine cv_seq_k fun K hK => ?_
  refine cv_region_then rfl ?_
  simp -implicitDefEqProofs (disch := first | omega | decide) only [seval, -Int.reducePow, -Nat.reducePow, cA, cB, pv, binv, fresh, thenQ, blockQ, retQ, Value.oneCell', Value.cells, undef, Nat.mul_one, mrC, mrB, uV]
  refine hK _ _ ?_
  clear hK K
  refine cv_seq_k fun K hK => ?_
  refine cv_seq_k fun K hK => ?_
  refine cv_region_then rfl ?_
  simp -implicitDefEqProofs (disch := first | omega | decide) only [seval, -Int.reducePow, -Nat.reducePow, cA, cB, pv, binv, fresh, thenQ, blockQ, retQ, Value.oneCell', Value.cells, undef, Nat.mul_one, mrC, mrB, uV]
  refine hK _ _ ?_
  clear hK K
  refine cv_cond ?_
  simp -implicitDefEqProofs (disch := first | omega | decide) only [seval, -Int.reducePow, -Nat.reducePow, cA, cB, pv, binv, fresh, thenQ, blockQ, retQ, Value.oneCell', Value.cells, undef, Nat.mul_one, mrC, mrB, uV]
  refine ⟨fun hc => ?_, fun hc => ?_⟩
  · have he : ¬ err = 0 := by simpa using hc
    have hF : numE err l most = (0, 0, err) := by unfold numE; rw [if_neg he]
    refine cv_seq_k fun K hK => ?_
    refine cv_region_then rfl ?_
    simp -implicitDefEqProofs (disch := first | omega | decide) only [seval, -Int.reducePow, -Nat.reducePow, cA, cB, pv, binv, fresh, thenQ, blockQ, retQ, Value.oneCell', Value.cells, undef, Nat.mul_one, mrC, mrB, uV]
    refine hK _ _ ?_
    clear hK K
    refine cv_ret ⟨_, (by simp -implicitDefEqProofs (disch := first | omega | decide) only [seval, -Int.reducePow, -Nat.reducePow, cA, cB, pv, binv, fresh, thenQ, blockQ, retQ, Value.oneCell', Value.cells, undef, Nat.mul_one, mrC, mrB, uV]; rfl), fun w hw => ?_⟩
    rw [hF, sbase_zero]
    exact ⟨rfl, hw.hold 0 rfl, hw.pres⟩
  have he : err = 0 := by simpa using hc
  subst he
  refine cv_skip ?_
  try simp only [blockQ, thenQ]
  refine hK _ _ ?_
  clear hK K
  obtain ⟨q, hq⟩ : ∃ q, uD 0 l = q := ⟨_, rfl⟩
  have hqc := uD_cases l 0 (by omega) hb
  have hlt := uD_lt hb
  rw [hq] at hqc hlt
  rw [hln] at hqc
  refine cv_seq_k fun K hK => ?_
  refine cv_region_then rfl ?_
  simp -implicitDefEqProofs (disch := first | omega | decide) only [seval, -Int.reducePow, -Nat.reducePow, cA, cB, pv, binv, fresh, thenQ, blockQ, retQ, Value.oneCell', Value.cells, undef, Nat.mul_one, mrC, mrB, uV]
  refine callV_ret (fun w hw => uint_any A n c l w (hE.atM' hw ha) hb) ?_
  try simp -implicitDefEqProofs (disch := first | omega | decide) only [seval, -Int.reducePow, -Nat.reducePow, cA, cB, pv, binv, fresh, thenQ, blockQ, retQ, Value.oneCell', Value.cells, undef, Nat.mul_one, mrC, mrB, uV, hq]
  refine hK _ _ ?_
  clear hK K
  refine cv_gen fun G1 hG => ?_
  have g1_0 := congrFun hG 0
  have g1_1 := congrFun hG 1
  have g1_5 := congrFun hG 5
  have g1_6 := congrFun hG 6
  have g1_7 := congrFun hG 7
  clear hG
  try simp -implicitDefEqProofs (disch := first | omega | decide) only [seval, -Int.reducePow, -Nat.reducePow, cA, cB, pv, binv, fresh, thenQ, blockQ, retQ, Value.oneCell', Value.cells, undef, Nat.mul_one, mrC, mrB, uV, hq] at g1_0 g1_1 g1_5 g1_6 g1_7
  obtain ⟨e', he'⟩ : ∃ e', (if q.2.2 = 0 then (if most < q.1 then 4 else 0) else q.2.2 : Int) = e' := ⟨_, rfl⟩
  refine cv_seq_k fun K hK => ?_
  refine cv_cut (fun _ _ => True) (fun F' L' => F' 0 = G1 0 ∧ F' 5 = G1 5 ∧ F' 6 = G1 6 ∧ F' 7 = .int .i64 e' ∧ L' = [mrB r A n c 0]) ?_ ?_
  · by_cases h0 : q.2.2 = 0
    · rw [if_pos h0] at he'
      by_cases hm1 : most < q.1
      · have hm' : (most : Int) < (q.1 : Int) := by omega
        rw [if_pos hm1] at he'
        refine cv_seq_k fun K hK => ?_
        refine cv_region_then rfl ?_
        simp -implicitDefEqProofs (disch := first | omega | decide) only [seval, -Int.reducePow, -Nat.reducePow, cA, cB, pv, binv, fresh, thenQ, blockQ, retQ, Value.oneCell', Value.cells, undef, Nat.mul_one, mrC, mrB, uV, h0, hm', em, g1_0, g1_1, g1_5, g1_6, g1_7]
        refine hK _ _ ?_
        clear hK K
        refine cv_cond ?_
        simp -implicitDefEqProofs (disch := first | omega | decide) only [seval, -Int.reducePow, -Nat.reducePow, cA, cB, pv, binv, fresh, thenQ, blockQ, retQ, Value.oneCell', Value.cells, undef, Nat.mul_one, mrC, mrB, uV, g1_0, g1_1, g1_5, g1_6, g1_7]
        refine cv_region_q rfl ?_
        simp -implicitDefEqProofs (disch := first | omega | decide) only [seval, -Int.reducePow, -Nat.reducePow, cA, cB, pv, binv, fresh, thenQ, blockQ, retQ, Value.oneCell', Value.cells, undef, Nat.mul_one, mrC, mrB, uV, g1_0, g1_1, g1_5, g1_6, g1_7]
        all_goals (first | (simp [← he']; done) | (simp [← he']; omega))
      · have hm' : ¬ (most : Int) < (q.1 : Int) := by omega
        rw [if_neg hm1] at he'
        refine cv_seq_k fun K hK => ?_
        refine cv_region_then rfl ?_
        simp -implicitDefEqProofs (disch := first | omega | decide) only [seval, -Int.reducePow, -Nat.reducePow, cA, cB, pv, binv, fresh, thenQ, blockQ, retQ, Value.oneCell', Value.cells, undef, Nat.mul_one, mrC, mrB, uV, h0, hm', em, g1_0, g1_1, g1_5, g1_6, g1_7]
        refine hK _ _ ?_
        clear hK K
        refine cv_cond ?_
        simp -implicitDefEqProofs (disch := first | omega | decide) only [seval, -Int.reducePow, -Nat.reducePow, cA, cB, pv, binv, fresh, thenQ, blockQ, retQ, Value.oneCell', Value.cells, undef, Nat.mul_one, mrC, mrB, uV, g1_0, g1_1, g1_5, g1_6, g1_7]
        refine cv_skip ?_
        try simp only [blockQ, thenQ]
        simp -implicitDefEqProofs (disch := first | omega | decide) only [seval, -Int.reducePow, -Nat.reducePow, cA, cB, pv, binv, fresh, thenQ, blockQ, retQ, Value.oneCell', Value.cells, undef, Nat.mul_one, mrC, mrB, uV, g1_0, g1_1, g1_5, g1_6, g1_7]
        rw [← he', h0]
    · rw [if_neg h0] at he'
      refine cv_seq_k fun K hK => ?_
      refine cv_region_then rfl ?_
      simp -implicitDefEqProofs (disch := first | omega | decide) only [seval, -Int.reducePow, -Nat.reducePow, cA, cB, pv, binv, fresh, thenQ, blockQ, retQ, Value.oneCell', Value.cells, undef, Nat.mul_one, mrC, mrB, uV, h0, em, g1_0, g1_1, g1_5, g1_6, g1_7]
      refine hK _ _ ?_
      clear hK K
      refine cv_cond ?_
      simp -implicitDefEqProofs (disch := first | omega | decide) only [seval, -Int.reducePow, -Nat.reducePow, cA, cB, pv, binv, fresh, thenQ, blockQ, retQ, Value.oneCell', Value.cells, undef, Nat.mul_one, mrC, mrB, uV, g1_0, g1_1, g1_5, g1_6, g1_7]
      refine cv_skip ?_
      try simp only [blockQ, thenQ]
      simp -implicitDefEqProofs (disch := first | omega | decide) only [seval, -Int.reducePow, -Nat.reducePow, cA, cB, pv, binv, fresh, thenQ, blockQ, retQ, Value.oneCell', Value.cells, undef, Nat.mul_one, mrC, mrB, uV, g1_0, g1_1, g1_5, g1_6, g1_7]
      rw [← he']
  intro G2 L' _ hF
  obtain ⟨q0, q5, q6, q7, rfl⟩ := hF
  have g2_0 := q0.trans g1_0
  have g2_5 := q5.trans g1_5
  have g2_6 := q6.trans g1_6
  have g2_7 := q7
  clear q0 q5 q6 q7
  refine hK _ _ ?_
  clear hK K
  have hS : numE 0 l most = if e' = 0 then (q.1, q.2.1, 0) else (0, 0, e') := by
    unfold numE smF
    rw [if_pos rfl, List.drop_zero, hq]
    by_cases h0 : q.2.2 = 0
    · rw [if_pos h0] at he' ⊢
      by_cases hm1 : most < q.1
      · rw [if_pos hm1] at he' ⊢
        rw [← he', if_neg (by omega)]
      · rw [if_neg hm1] at he' ⊢
        rw [← he', if_pos rfl, Nat.zero_add]
    · rw [if_neg h0] at he' ⊢
      rw [← he', if_neg h0]
  have h0 : e' = 0 → q.2.1 ≤ n := fun h => by
    rcases hqc with h3 | h3
    · omega
    · exact h3.2.2.2.2.1
  have hq1 : e' = 0 → q.1 ≤ most := fun h => by
    by_cases h0 : q.2.2 = 0
    · rw [if_pos h0] at he'
      by_cases hm1 : most < q.1
      · rw [if_pos hm1] at he'; omega
      · omega
    · rw [if_neg h0] at he'; omega
  obtain ⟨k', hk'⟩ : ∃ k', k' = if e' = 0 then q.2.1 else 0 := ⟨_, rfl⟩
  refine cv_seq_k fun K hK => ?_
  refine cv_seq_k fun K hK => ?_
  refine cv_region_then rfl ?_
  simp -implicitDefEqProofs (disch := first | omega | decide) only [seval, -Int.reducePow, -Nat.reducePow, cA, cB, pv, binv, fresh, thenQ, blockQ, retQ, Value.oneCell', Value.cells, undef, Nat.mul_one, mrC, mrB, uV, g2_0, g2_5, g2_6, g2_7]
  refine callV_mod1 0 (fun w hw => took_any r A n c q.2.1 k' e' w (hw.hold 0 rfl) h0 hcap hmax hk') rfl ?_
  try simp -implicitDefEqProofs (disch := first | omega | decide) only [seval, -Int.reducePow, -Nat.reducePow, cA, cB, pv, binv, fresh, thenQ, blockQ, retQ, Value.oneCell', Value.cells, undef, Nat.mul_one, mrC, mrB, uV, g2_0, g2_5, g2_6, g2_7]
  refine hK _ _ ?_
  clear hK K
  refine cv_cond ?_
  simp -implicitDefEqProofs (disch := first | omega | decide) only [seval, -Int.reducePow, -Nat.reducePow, cA, cB, pv, binv, fresh, thenQ, blockQ, retQ, Value.oneCell', Value.cells, undef, Nat.mul_one, mrC, mrB, uV, g2_0, g2_5, g2_6, g2_7]
  refine ⟨fun hc => ?_, fun hc => ?_⟩
  · have h1 : ¬ e' = 0 := by simpa using hc
    rw [if_neg h1] at hk' hS
    subst hk'
    refine cv_seq_k fun K hK => ?_
    refine cv_region_then rfl ?_
    simp -implicitDefEqProofs (disch := first | omega | decide) only [seval, -Int.reducePow, -Nat.reducePow, cA, cB, pv, binv, fresh, thenQ, blockQ, retQ, Value.oneCell', Value.cells, undef, Nat.mul_one, mrC, mrB, uV, g2_0, g2_5, g2_6, g2_7]
    refine hK _ _ ?_
    clear hK K
    refine cv_ret ⟨_, (by simp -implicitDefEqProofs (disch := first | omega | decide) only [seval, -Int.reducePow, -Nat.reducePow, cA, cB, pv, binv, fresh, thenQ, blockQ, retQ, Value.oneCell', Value.cells, undef, Nat.mul_one, mrC, mrB, uV, g2_0, g2_5, g2_6, g2_7]; rfl), fun w hw => ?_⟩
    rw [hS]
    dsimp only
    rw [sbase_zero]
    exact ⟨rfl, hw.hold 0 rfl, hw.pres⟩
  have h1 : e' = 0 := by simpa using hc
  rw [if_pos h1] at hk' hS
  have := hq1 h1
  subst hk'
  refine cv_skip ?_
  try simp only [blockQ, thenQ]
  refine hK _ _ ?_
  clear hK K
  refine cv_seq_k fun K hK => ?_
  refine cv_region_then rfl ?_
  simp -implicitDefEqProofs (disch := first | omega | decide) only [seval, -Int.reducePow, -Nat.reducePow, cA, cB, pv, binv, fresh, thenQ, blockQ, retQ, Value.oneCell', Value.cells, undef, Nat.mul_one, mrC, mrB, uV, wrap_in, g2_0, g2_5, g2_6, g2_7]
  refine hK _ _ ?_
  clear hK K
  refine cv_ret ⟨_, (by simp -implicitDefEqProofs (disch := first | omega | decide) only [seval, -Int.reducePow, -Nat.reducePow, cA, cB, pv, binv, fresh, thenQ, blockQ, retQ, Value.oneCell', Value.cells, undef, Nat.mul_one, mrC, mrB, uV, g2_0, g2_5, g2_6, g2_7]; rfl), fun w hw => ?_⟩
  rw [hS]
  exact ⟨rfl, by rw [h1] at hw; exact hw.hold 0 rfl, hw.pres⟩
end Go.Proofs.Ytehfnjaompkikaa
