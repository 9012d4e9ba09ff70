/- Contracts of the reference's AllSizes, Class, Round. -/
import Derived.Test.YtfjnjdmdijickaaBase
import Derived.Test.YtfjnjdmdijickaaSzPlain
import Derived.Test.YtfjnjdmdijickaaSzFind2
namespace Go.Proofs.Ytfjnjdmdijickaa
open Go.RowKit Go.Shelf

theorem int_info : (Try.prog.info? 3).map (fun i => (i.zero, i.size, i.bytes)) = some (some (.int .i64 0), 1, 8) := by kernel_rfl

/-- The first k sizes as cells. -/
def szCells (k : Nat) : List Value := (List.range k).map fun j => .int .i64 (Sz.sz j)
theorem szCells_len (k : Nat) : (szCells k).length = k := by simp [szCells]
theorem szCells_succ (k : Nat) : szCells (k + 1) = szCells k ++ [.int .i64 (Sz.sz k)] := by simp [szCells, List.range_succ]

theorem sz_mid : ∀ k, 8 ≤ k → k < 12 → (256 ≤ Sz.sz k ∧ Sz.sz k ≤ 2048) ∧ Sz.sz (k + 1) = 2 * Sz.sz k := by
  intro k h1 h2
  have : k = 8 ∨ k = 9 ∨ k = 10 ∨ k = 11 := by omega
  rcases this with rfl | rfl | rfl | rfl <;> decide
theorem sz_high (k : Nat) (h1 : 12 ≤ k) (h2 : k < 43) : (4096 ≤ Sz.sz k ∧ Sz.sz k ≤ 65536) ∧ Sz.sz (k + 1) = Sz.sz k + 2048 := by
  unfold Sz.sz
  rw [if_neg (by omega), if_neg (by omega), if_neg (by omega), if_neg (by omega)]
  omega

set_option maxRecDepth 100000 in
set_option maxHeartbeats 2000000 in
theorem all_any (w : World) : Calls Try.prog 8 #[] w fun e w' => ∃ g cap, e = .returned (.slice (some ⟨g, 0, none⟩) 43 cap) ∧ w'.ownsRow w.heap.size 3 1 (.slice (some ⟨g, 0, none⟩) 43 cap) 43 (szCells 43) ∧ Below w.heap.size w w' := by
  obtain ⟨i0, hi, hz0, hz1, hz2⟩ := info_parts int_info
  go_enter Try.func8, Try.ntmps8
  go_wp2
  go_loopw [1, 2] (fun v n wr => ∃ k : Nat, k ≤ 8 ∧ n = .int .i64 (16 * ((k : Int) + 1)) ∧ wr.ownsRow w.heap.size 3 1 v k (szCells k) ∧ Below w.heap.size w wr) (fun _ n _ => 200 - (intOf n).toNat)
  case atStart => exact ⟨0, by omega, rfl, World.ownsRow_nil _ _ _ _, Below.refl _ _⟩
  case round =>
    obtain ⟨k, hk, rfl, hown, hB⟩ := hrel
    by_cases hlt : k < 8
    · have hs : 16 * ((k : Int) + 1) = Sz.sz k := by unfold Sz.sz; rw [if_pos hlt]
      have H := Lib.hid hs
      clear hs
      go_wp2_with (at_builtin; go_must (refine wpList_append_any _ rfl _ _ _ rfl w.heap.size 3 i0 _ 1 8 Try.underlying23 hi hz0 hz1 hz2 rfl (by omega) _ k _ rfl (hown.alloc _) (wr.heap.size + 1) _ 1 1 [.int .i64 (16 * ((k : Int) + 1))] rfl (reads_new wr _ _ 1 1 rfl _ (by omega)) (by simp [Value.oneCell']) (by simp only [maxLen]; omega) (by omega) (by have := hB.size; simp; omega) ?_); intro v1 w1 hown1 hg1 hat1)
      go_roundw
      case rel => exact ⟨k + 1, by omega, by go_num, by rw [szCells_succ, ← H.out]; exact hown1, (hB.alloc hB.size _).grown hg1 (by have := hB.size; simp; omega) (fun j hj => (hown.lt j hj).1)⟩
      case measure => simp [intOf]; omega
    · obtain ⟨N, hN⟩ : ∃ N : Int, N = 16 * ((k : Int) + 1) := ⟨_, rfl⟩
      rw [← hN]
      obtain rfl : k = 8 := by omega
      have hN2 : 128 < N := by omega
      clear hk hN
      go_wp2
      go_loopw [1, 3] (fun v n wr => ∃ k : Nat, 8 ≤ k ∧ k ≤ 12 ∧ n = .int .i64 (Sz.sz k) ∧ wr.ownsRow w.heap.size 3 1 v k (szCells k) ∧ Below w.heap.size w wr) (fun _ n _ => 4096 - (intOf n).toNat)
      case atStart => exact ⟨8, by omega, by omega, rfl, hown, hB⟩
      case round =>
        clear hown hB
        obtain ⟨k, hk1, hk2, rfl, hown, hB⟩ := hrel
        by_cases hlt : k < 12
        · have hb := sz_mid k hk1 hlt
          have H := Lib.hid hb.2
          have hb1 := hb.1
          clear hb
          go_wp2_with (at_builtin; go_must (refine wpList_append_any _ rfl _ _ _ rfl w.heap.size 3 i0 _ 1 8 Try.underlying23 hi hz0 hz1 hz2 rfl (by omega) _ k _ rfl (hown.alloc _) (wr.heap.size + 1) _ 1 1 [.int .i64 (Sz.sz k)] rfl (reads_new wr _ _ 1 1 rfl _ (by omega)) (by simp [Value.oneCell']) (by simp only [maxLen]; omega) (by omega) (by have := hB.size; simp; omega) ?_); intro v1 w1 hown1 hg1 hat1)
          go_roundw
          case rel => exact ⟨k + 1, by omega, by omega, by rw [H.out], by rw [szCells_succ]; exact hown1, (hB.alloc hB.size _).grown hg1 (by have := hB.size; simp; omega) (fun j hj => (hown.lt j hj).1)⟩
          case measure => simp [intOf]; omega
        · obtain rfl : k = 12 := by omega
          clear hk1 hk2
          have hsz : Sz.sz 12 = 4096 := by decide
          have hsz' : 2048 < Sz.sz 12 := by rw [hsz]; decide
          clear hsz
          go_wp2
          go_loopw [1, 4] (fun v n wr => ∃ k : Nat, 12 ≤ k ∧ k ≤ 43 ∧ n = .int .i64 (Sz.sz k) ∧ wr.ownsRow w.heap.size 3 1 v k (szCells k) ∧ Below w.heap.size w wr) (fun _ n _ => 70000 - (intOf n).toNat)
          case atStart => exact ⟨12, by omega, by omega, rfl, hown, hB⟩
          case round =>
            clear hown hB
            obtain ⟨k, hk1, hk2, rfl, hown, hB⟩ := hrel
            by_cases hlt : k < 43
            · have hb := sz_high k hk1 hlt
              have H := Lib.hid hb.2
              have hb1 := hb.1
              clear hb
              go_wp2_with (at_builtin; go_must (refine wpList_append_any _ rfl _ _ _ rfl w.heap.size 3 i0 _ 1 8 Try.underlying23 hi hz0 hz1 hz2 rfl (by omega) _ k _ rfl (hown.alloc _) (wr.heap.size + 1) _ 1 1 [.int .i64 (Sz.sz k)] rfl (reads_new wr _ _ 1 1 rfl _ (by omega)) (by simp [Value.oneCell']) (by simp only [maxLen]; omega) (by omega) (by have := hB.size; simp; omega) ?_); intro v1 w1 hown1 hg1 hat1)
              go_roundw
              case rel => exact ⟨k + 1, by omega, by omega, by rw [H.out], by rw [szCells_succ]; exact hown1, (hB.alloc hB.size _).grown hg1 (by have := hB.size; simp; omega) (fun j hj => (hown.lt j hj).1)⟩
              case measure => simp [intOf]; omega
            · obtain rfl : k = 43 := by omega
              have hsz : 65536 < Sz.sz 43 := by decide
              obtain ⟨g, cap, rfl⟩ := ownsRow_succ (k := 42) hown
              go_wp2
              go_ret
              exact ⟨g, cap, rfl, hown, hB⟩

theorem szCells_get {k : Nat} (h : k < 43) : (szCells 43)[k]? = some (.int .i64 (Sz.sz k)) := by simp [szCells, h]

theorem own_cell {w : World} {base e g n cap : Nat} {xs : List Value} (h : w.ownsRow base e 1 (.slice (some ⟨g, 0, none⟩) n cap) n xs) {j : Nat} {u : Value} (hu : xs[j]? = some u) : w.cell? ⟨g, j, none⟩ = some u := by
  have := h.cells (g := g) rfl j u hu
  have e : (⟨g, 0, none⟩ : Addr).add j = ⟨g, j, none⟩ := by unfold Addr.add; split <;> simp_all
  rwa [e] at this

theorem rclass_no (x : Int) (w : World) (hx : x < 1 ∨ 65536 < x) : Calls Try.prog 13 #[.int .i64 x] w fun e w' => e = .returned (.tuple #[.int .i64 (Sz.cla x), .int .i64 (Sz.err x)]) ∧ Below w.heap.size w w' := by
  rcases hx with hx | hx
  · have H : Sz.cla x = 0 ∧ Sz.err x = 1 := by unfold Sz.cla Sz.err; rw [if_pos hx, if_pos hx]; exact ⟨rfl, rfl⟩
    rw [H.1, H.2]
    clear H
    go_enter Try.func13, Try.ntmps13
    go_wp2
    go_ret2
    exact ⟨rfl, Below.refl _ _⟩
  · have hn : ¬ x < 1 := by omega
    have H : Sz.cla x = 0 ∧ Sz.err x = 4 := by unfold Sz.cla Sz.err; rw [if_neg hn, if_pos hx, if_neg hn, if_pos hx]; exact ⟨rfl, rfl⟩
    rw [H.1, H.2]
    clear H
    go_enter Try.func13, Try.ntmps13
    go_wp2
    go_ret2
    exact ⟨rfl, Below.refl _ _⟩

set_option maxRecDepth 100000 in
set_option maxHeartbeats 1000000 in
theorem rclass_yes (x : Int) (w : World) (h1 : 1 ≤ x) (h2 : x ≤ 65536) : Calls Try.prog 13 #[.int .i64 x] w fun e w' => e = .returned (.tuple #[.int .i64 (Sz.cls x), .int .i64 0]) ∧ Below w.heap.size w w' := by
  obtain ⟨hc1, hc2, hc3⟩ := Sz.cls_spec h2
  have d1 : decide (x < 1) = false := by simp; omega
  have d2 : decide (65536 < x) = false := by simp; omega
  obtain ⟨c, hc⟩ : ∃ c, Sz.cls x = c := ⟨_, rfl⟩
  rw [hc] at hc1 hc2 hc3 ⊢
  clear hc
  have HC := Lib.hid hc3
  clear hc3
  go_enter Try.func13, Try.ntmps13
  go_wp2_with (go_at_call 8; refine (all_any _).mono ?_; rintro e w1 ⟨g, cap, rfl, hown, hb⟩)
  have HO := Lib.hid hown
  clear hown
  go_loop [5] (fun i => ∃ k : Nat, k ≤ c ∧ i = .int .i64 (k : Int)) (fun i => 43 - (intOf i).toNat)
  case atStart => exact ⟨0, by omega, rfl⟩
  case round =>
    obtain ⟨k, hk, rfl⟩ := hrel
    have hcell := own_cell HO.out (szCells_get (k := k) (by omega))
    by_cases hlt : k < c
    · have hs := HC.out k hlt
      go_wp2
      go_round
      case rel => exact ⟨k + 1, by omega, by go_num⟩
      case measure => simp [intOf]; omega
    · obtain rfl : k = c := by omega
      go_wp2
      go_ret2
      exact ⟨rfl, hb⟩

theorem rclass_any (x : Int) (w : World) : Calls Try.prog 13 #[.int .i64 x] w fun e w' => e = .returned (.tuple #[.int .i64 (Sz.cla x), .int .i64 (Sz.err x)]) ∧ Below w.heap.size w w' := by
  by_cases hx : x < 1 ∨ 65536 < x
  · exact rclass_no x w hx
  · have H : Sz.cla x = Sz.cls x ∧ Sz.err x = 0 := by
      unfold Sz.cla Sz.err
      rw [if_neg (by omega), if_neg (by omega), if_neg (by omega), if_neg (by omega)]; exact ⟨rfl, rfl⟩
    rw [H.1, H.2]
    exact rclass_yes x w (by omega) (by omega)

set_option maxRecDepth 100000 in
set_option maxHeartbeats 1000000 in
theorem rround_any (x : Int) (w : World) : Calls Try.prog 11 #[.int .i64 x] w fun e w' => e = .returned (.tuple #[.int .i64 (Sz.rnd x), .int .i64 (Sz.err x)]) ∧ Below w.heap.size w w' := by
  by_cases hx : x < 1 ∨ 65536 < x
  · have H : Sz.rnd x = 0 := by
      unfold Sz.rnd
      rcases hx with hx | hx
      · rw [if_pos hx]
      · rw [if_neg (by omega), if_pos hx]
    have he : (Sz.err x != 0) = true := by
      unfold Sz.err
      rcases hx with hx | hx
      · rw [if_pos hx]; rfl
      · rw [if_neg (by omega), if_pos hx]; rfl
    rw [H]
    clear H hx
    go_enter Try.func11, Try.ntmps11
    go_wp2_with (go_at_call 13; refine (rclass_any _ _).mono ?_; rintro e w1 ⟨rfl, hb⟩)
    go_ret2
    exact ⟨rfl, hb⟩
  · have H : Sz.rnd x = Sz.sz (Sz.cls x) ∧ Sz.err x = 0 := by
      unfold Sz.rnd Sz.err
      rw [if_neg (by omega), if_neg (by omega), if_neg (by omega), if_neg (by omega)]; exact ⟨rfl, rfl⟩
    rw [H.1, H.2]
    clear H
    obtain ⟨hc1, _⟩ := Sz.cls_spec (n := x) (by omega)
    have hcl := rclass_yes x w (by omega) (by omega)
    obtain ⟨c, hc⟩ : ∃ c, Sz.cls x = c := ⟨_, rfl⟩
    rw [hc] at hc1 hcl ⊢
    clear hc hx
    have HL := Lib.hid hcl
    clear hcl
    go_enter Try.func11, Try.ntmps11
    go_wp2_with (go_at_call 13; refine HL.out.mono ?_; rintro e w1 ⟨rfl, hb⟩)
    refine (all_any _).mono ?_
    rintro e w2 ⟨g, cap, rfl, hown, hb2⟩
    have hcell := own_cell hown (szCells_get (k := c) (by omega))
    clear hown
    go_wp2
    go_ret2
    exact ⟨rfl, hb.trans (hb2.mono hb.size)⟩

set_option maxRecDepth 100000 in
set_option maxHeartbeats 1000000 in
theorem awake5 (w : World) : Calls Try.prog 7 #[] w fun e w' => e = .returned (.bool true) ∧ Below w.heap.size w w' := by
  have h1 := round_any 17 w
  have e1 : Sz.rnd 17 = 32 ∧ Sz.err 17 = 0 := by decide
  rw [e1.1, e1.2] at h1
  have h2 := fun w => round_any 2049 w
  have e2 : Sz.rnd 2049 = 4096 ∧ Sz.err 2049 = 0 := by decide
  rw [e2.1, e2.2] at h2
  clear e1 e2
  have H1 := Lib.hid h1
  have H2 := Lib.hid h2
  clear h1 h2
  go_enter Try.func7, Try.ntmps7
  go_wp2_with fail
  refine H1.out.mono ?_
  rintro e w1 ⟨rfl, hb⟩
  go_wp2_with fail
  refine (H2.out _).mono ?_
  rintro e w2 ⟨rfl, hb2⟩
  go_wp2
  go_ret
  exact ⟨rfl, hb.trans (hb2.mono hb.size)⟩
end Go.Proofs.Ytfjnjdmdijickaa
