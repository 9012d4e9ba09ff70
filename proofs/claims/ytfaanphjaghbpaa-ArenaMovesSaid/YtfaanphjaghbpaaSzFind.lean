/- Contracts of layer 5's functions step, Sizes, find, Round, Class. -/
import Derived.Test.YtfaanphjaghbpaaEng7
import Derived.Test.YtfaanphjaghbpaaSzPlain
namespace Go.Proofs.Ytfaanphjaghbpaa
open Go.RowKit Go.Shelf

attribute [local go_sem] Oper.semAt_some

theorem stp_1 {s : Int} (h : s < 128) : Sz.stp s = 16 := by unfold Sz.stp; rw [if_pos h]
theorem stp_2 {s : Int} (h : ¬ s < 128) (h2 : s < 2048) : Sz.stp s = s := by unfold Sz.stp; rw [if_neg h, if_pos h2]
theorem stp_3 {s : Int} (h : ¬ s < 128) (h2 : ¬ s < 2048) : Sz.stp s = 2048 := by unfold Sz.stp; rw [if_neg h, if_neg h2]

set_option maxHeartbeats 400000 in
theorem step_any (s : Int) (w : World) : Calls Try.prog 81 #[.int .i64 s] w fun e w' => e = .returned (.int .i64 (Sz.stp s)) ∧ w = w' := by
  by_cases h1 : s < 128
  · have H := Lib.hid (stp_1 h1)
    go_enter Try.func81, Try.ntmps81
    go_wp2
    go_ret
    exact ⟨ret_int H.out.symm, rfl⟩
  · by_cases h2 : s < 2048
    · have H := Lib.hid (stp_2 h1 h2)
      go_enter Try.func81, Try.ntmps81
      go_wp2
      go_ret
      exact ⟨ret_int H.out.symm, rfl⟩
    · have H := Lib.hid (stp_3 h1 h2)
      go_enter Try.func81, Try.ntmps81
      go_wp2
      go_ret
      exact ⟨ret_int H.out.symm, rfl⟩

theorem sizes_any (w : World) : Calls Try.prog 79 #[] w fun e w' => e = .returned (.func (.func 80) #[] #[]) ∧ w = w' := by
  go_enter Try.func79, Try.ntmps79
  go_wp2
  go_ret
  exact ⟨rfl, rfl⟩

abbrev szEnc (k : Nat) : Array Value := #[.int .i64 (k : Int), .int .i64 (Sz.sz k)]

set_option maxRecDepth 100000 in
set_option maxHeartbeats 1000000 in
theorem sizes_stops (n : Nat) (w : World) :
    SeqStopsK Fence.wide (n + 1) Try.prog 80 #[] szEnc (fun _ _ => True) (fun xs => xs = List.range 43) (fun pre => ∃ k, k < 43 ∧ pre = List.range (k + 1)) 43 w := fun l J Jx W _ _ _ hY h0 => by
  refine callsIn_of_wp Try.func80 rfl trivial ?_ rfl
  simp only [Try.ntmps80, List.size_toArray, List.length_cons, List.length_nil, Nat.reduceAdd, Nat.reduceSub, Array.replicate_succ, Array.replicate_zero, List.push_toArray, List.append_toArray, List.nil_append, List.cons_append]
  gi_wp2
  gi_loopw [2, 3] (fun c s wr => ∃ k : Nat, k ≤ 43 ∧ c = .int .i64 (k : Int) ∧ s = .int .i64 (Sz.sz k) ∧ J (List.range k) wr) (fun c _ _ => 43 - (intOf c).toNat)
  case atStart => exact ⟨0, by omega, rfl, by rw [Sz.sz_zero], h0⟩
  case round =>
    obtain ⟨k, hk, rfl, rfl, hJ⟩ := hrel
    by_cases hlt : k < 43
    · have hb := Sz.sz_bd hlt
      have hs := Sz.sz_succ hlt
      have hst : 0 ≤ Sz.stp (Sz.sz k) ∧ Sz.stp (Sz.sz k) ≤ 2048 := by have := Sz.sz_lt hlt; unfold Sz.stp; (repeat' split) <;> omega
      have HS := Lib.hid hs
      clear hs
      obtain ⟨fn, tmps, assign, body, hy, hR⟩ := hY _ k wr hJ (by simpa using hlt)
      dsimp only [szEnc] at hy
      gi_wp2
      refine hR.mono ?_
      rintro e W3 (⟨rfl, hJ3, _⟩ | ⟨rfl, hJx3⟩)
      · gi_wp2_with (refine ⟨trivial, ?_⟩; gi_at_call 81; refine (callsIn_wide.2 (step_any _ _)).mono ?_; rintro e w' ⟨rfl, rfl⟩)
        go_roundw
        case rel => exact ⟨k + 1, by omega, by go_num, by rw [HS.out], by rw [List.range_succ]; exact hJ3⟩
        case measure => simp [intOf]; omega
      · gi_wp2
        refine bodyPost_ret (results_none rfl _ _ _) rfl ?_
        exact ⟨⟨_, rfl⟩, .inr ⟨_, ⟨k, hlt, List.range_succ.symm⟩, hJx3⟩⟩
    · obtain rfl : k = 43 := by omega
      have he := Sz.sz_end
      gi_wp2
      go_end0
      exact ⟨⟨_, rfl⟩, .inl ⟨_, rfl, hJ⟩⟩
end Go.Proofs.Ytfaanphjaghbpaa
