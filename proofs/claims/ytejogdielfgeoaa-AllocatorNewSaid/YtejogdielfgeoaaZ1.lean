/- Plain facts on the sizes of layer 5: the k-th size, and the class of a number. No program in sight. -/
import Derived.Test.YtejogdielfgeoaaEng7
import Derived.Deep.RegionHeld3
import Derived.BigQuiet
import Derived.Deep.QuietTactic
import Derived.Lib.AppendZeros
import Derived.Test.YtejogdielfgeoaaTy
import Derived.Test.YtejogdielfgeoaaCore
namespace Go.Proofs.Ytejogdielfgeoaa.Sz

/-- The k-th size. -/
def sz (k : Nat) : Int := if k < 8 then 16 * (k + 1) else if k < 12 then 256 * 2 ^ (k - 8) else 2048 * ((k : Int) - 10)
/-- The step from a size to the next one. -/
def stp (s : Int) : Int := if s < 128 then 16 else if s < 2048 then s else 2048
/-- The first class from k on whose size is at least n; fuel rounds are tried. -/
def clsFrom (n : Int) : Nat → Nat → Nat
  | 0, k => k
  | f + 1, k => if n ≤ sz k then k else clsFrom n f (k + 1)
def cls (n : Int) : Nat := clsFrom n 43 0
/-- What Round and Class come to. -/
def rnd (n : Int) : Int := if n < 1 then 0 else if 65536 < n then 0 else sz (cls n)
def cla (n : Int) : Int := if n < 1 then 0 else if 65536 < n then 0 else (cls n : Int)
def err (n : Int) : Int := if n < 1 then 1 else if 65536 < n then 4 else 0

theorem sz_all : ∀ k, k < 43 → (16 ≤ sz k ∧ sz k ≤ 65536) ∧ sz (k + 1) = sz k + stp (sz k) ∧ sz k < sz (k + 1) := by decide
theorem sz_zero : sz 0 = 16 := by decide
theorem sz_last : sz 42 = 65536 := by decide
theorem sz_end : sz 43 = 67584 := by decide
theorem sz_bd {k : Nat} (h : k < 43) : 16 ≤ sz k ∧ sz k ≤ 65536 := (sz_all k h).1
theorem sz_succ {k : Nat} (h : k < 43) : sz (k + 1) = sz k + stp (sz k) := (sz_all k h).2.1
theorem sz_lt {k : Nat} (h : k < 43) : sz k < sz (k + 1) := (sz_all k h).2.2
theorem sz_mono : ∀ (d k : Nat), k + d ≤ 43 → sz k ≤ sz (k + d)
  | 0, _, _ => Int.le_refl _
  | d + 1, k, h => Int.le_trans (sz_mono d k (by omega)) (Int.le_of_lt (sz_lt (k := k + d) (by omega)))
theorem sz_le {j k : Nat} (h : j ≤ k) (hk : k ≤ 43) : sz j ≤ sz k := by
  obtain ⟨d, rfl⟩ := Nat.le.dest h
  exact sz_mono d j hk
theorem sz_str {j k : Nat} (h : j < k) (hk : k ≤ 43) : sz j < sz k := Int.lt_of_lt_of_le (sz_lt (by omega)) (sz_le (by omega : j + 1 ≤ k) hk)

theorem clsFrom_spec (n : Int) (hn : n ≤ 65536) : ∀ (f k : Nat), k + f = 43 → (∀ j, j < k → sz j < n) → k ≤ 42 →
    clsFrom n f k ≤ 42 ∧ n ≤ sz (clsFrom n f k) ∧ ∀ j, j < clsFrom n f k → sz j < n
  | 0, k, h, _, hk => by omega
  | f + 1, k, h, hj, hk => by
    unfold clsFrom
    by_cases hle : n ≤ sz k
    · rw [if_pos hle]; exact ⟨hk, hle, hj⟩
    · rw [if_neg hle]
      by_cases h42 : k = 42
      · subst h42; rw [sz_last] at hle; omega
      · refine clsFrom_spec n hn f (k + 1) (by omega) (fun j hj' => ?_) (by omega)
        by_cases e : j = k
        · subst e; omega
        · exact hj j (by omega)
theorem cls_spec {n : Int} (hn : n ≤ 65536) : cls n ≤ 42 ∧ n ≤ sz (cls n) ∧ ∀ j, j < cls n → sz j < n :=
  clsFrom_spec n hn 43 0 rfl (fun j h => by omega) (by omega)
/-- The class is the only k below 43 that has the two properties. -/
theorem cls_uniq {n : Int} {k : Nat} (hk : k < 43) (h1 : n ≤ sz k) (h2 : ∀ j, j < k → sz j < n) : cls n = k := by
  have hb : n ≤ 65536 := by have := (sz_bd hk).2; omega
  obtain ⟨a, b, c⟩ := cls_spec hb
  rcases Nat.lt_trichotomy (cls n) k with h | h | h
  · have := h2 _ h; omega
  · exact h
  · have := c _ h; omega
/-- The same, one step at a time: what lies before k is below n already where the size before is. -/
theorem cls_uniq' {n : Int} {k : Nat} (hk : k < 43) (h1 : n ≤ sz k) (h2 : 0 < k → sz (k - 1) < n) : cls n = k := by
  refine cls_uniq hk h1 fun j hj => ?_
  have h3 := h2 (by omega)
  have h4 : sz j ≤ sz (k - 1) := sz_le (by omega) (by omega)
  omega
theorem cls_mono {n m : Int} (h : n ≤ m) (hm : m ≤ 65536) : cls n ≤ cls m := by
  obtain ⟨a, b, c⟩ := cls_spec (n := n) (by omega)
  obtain ⟨a', b', c'⟩ := cls_spec hm
  rcases Nat.lt_or_ge (cls m) (cls n) with h' | h'
  · have := c _ h'; omega
  · exact h'
theorem cls_sz {k : Nat} (hk : k < 43) : cls (sz k) = k :=
  cls_uniq hk (Int.le_refl _) fun j hj => sz_str hj (by omega)

/-- The sizes as a list. -/
def all : List Int := (List.range 43).map sz
theorem all_length : all.length = 43 := by decide
theorem all_get {k : Nat} (h : k < 43) : all[k]? = some (sz k) := by simp [all, h]
end Go.Proofs.Ytejogdielfgeoaa.Sz
/- Contracts of layer 5's functions step, Sizes, find, Round, Class. -/
namespace Go.Proofs.Ytejogdielfgeoaa
open Go.RowKit Go.Shelf

attribute [local go_sem] Oper.semAt_some

theorem stp_1 {s : Int} (h : s < 128) : Sz.stp s = 16 := by unfold Sz.stp; rw [if_pos h]
theorem stp_2 {s : Int} (h : ¬ s < 128) (h2 : s < 2048) : Sz.stp s = s := by unfold Sz.stp; rw [if_neg h, if_pos h2]
theorem stp_3 {s : Int} (h : ¬ s < 128) (h2 : ¬ s < 2048) : Sz.stp s = 2048 := by unfold Sz.stp; rw [if_neg h, if_neg h2]

set_option maxHeartbeats 400000 in
theorem step_any (s : Int) (w : World) : Calls Try.prog 65 #[.int .i64 s] w fun e w' => e = .returned (.int .i64 (Sz.stp s)) ∧ w = w' := by
  by_cases h1 : s < 128
  · have H := Lib.hid (stp_1 h1)
    go_enter Try.func65, Try.ntmps65
    go_wp2
    go_ret
    exact ⟨ret_int H.out.symm, rfl⟩
  · by_cases h2 : s < 2048
    · have H := Lib.hid (stp_2 h1 h2)
      go_enter Try.func65, Try.ntmps65
      go_wp2
      go_ret
      exact ⟨ret_int H.out.symm, rfl⟩
    · have H := Lib.hid (stp_3 h1 h2)
      go_enter Try.func65, Try.ntmps65
      go_wp2
      go_ret
      exact ⟨ret_int H.out.symm, rfl⟩

theorem sizes_any (w : World) : Calls Try.prog 60 #[] w fun e w' => e = .returned (.func (.func 64) #[] #[]) ∧ w = w' := by
  go_enter Try.func60, Try.ntmps60
  go_wp2
  go_ret
  exact ⟨rfl, rfl⟩

abbrev szEnc (k : Nat) : Array Value := #[.int .i64 (k : Int), .int .i64 (Sz.sz k)]

set_option maxRecDepth 100000 in
set_option maxHeartbeats 1000000 in
theorem sizes_stops (n : Nat) (w : World) :
    SeqStopsK Fence.wide (n + 1) Try.prog 64 #[] szEnc (fun _ _ => True) (fun xs => xs = List.range 43) (fun pre => ∃ k, k < 43 ∧ pre = List.range (k + 1)) 43 w := fun l J Jx W _ _ _ hY h0 => by
  refine callsIn_of_wp Try.func64 rfl trivial ?_ rfl
  simp only [Try.ntmps64, List.size_toArray, List.length_cons, List.length_nil, Nat.reduceAdd, Nat.reduceSub, Array.replicate_succ, Array.replicate_zero, List.push_toArray, List.append_toArray, List.nil_append, List.cons_append]
  gi_wp2
  gi_loopw [2, 3] (fun c s wr => ∃ k : Nat, k ≤ 43 ∧ c = .int .i64 (k : Int) ∧ s = .int .i64 (Sz.sz k) ∧ J (List.range k) wr) (fun c _ _ => 43 - (intOf c).toNat)
  case atStart => exact ⟨0, by omega, rfl, by rw [Sz.sz_zero], h0⟩
  case round =>
    obtain ⟨k, hk, rfl, rfl, hJ⟩ := hrel
    by_cases hlt : k < 43
    · have hb := Sz.sz_bd hlt
      have hs := Sz.sz_succ hlt
      have hst : 0 ≤ Sz.stp (Sz.sz k) ∧ Sz.stp (Sz.sz k) ≤ 2048 := by have := Sz.sz_lt hlt; unfold Sz.stp; (repeat' split) <;> omega
      have HS := Lib.hid hs
      clear hs
      obtain ⟨fn, tmps, assign, body, hy, hR⟩ := hY _ k wr hJ (by simpa using hlt)
      dsimp only [szEnc] at hy
      gi_wp2
      refine hR.mono ?_
      rintro e W3 (⟨rfl, hJ3, _⟩ | ⟨rfl, hJx3⟩)
      · gi_wp2_with (refine ⟨trivial, ?_⟩; gi_at_call 65; refine (callsIn_wide.2 (step_any _ _)).mono ?_; rintro e w' ⟨rfl, rfl⟩)
        go_roundw
        case rel => exact ⟨k + 1, by omega, by go_num, by rw [HS.out], by rw [List.range_succ]; exact hJ3⟩
        case measure => simp [intOf]; omega
      · gi_wp2
        refine bodyPost_ret (results_none rfl _ _ _) rfl ?_
        exact ⟨⟨_, rfl⟩, .inr ⟨_, ⟨k, hlt, List.range_succ.symm⟩, hJx3⟩⟩
    · obtain rfl : k = 43 := by omega
      have he := Sz.sz_end
      gi_wp2
      go_end0
      exact ⟨⟨_, rfl⟩, .inl ⟨_, rfl, hJ⟩⟩
end Go.Proofs.Ytejogdielfgeoaa
/- Contracts of layer 5's functions find, Round, Class. -/
namespace Go.Proofs.Ytejogdielfgeoaa
open Go.RowKit Go.Shelf

attribute [local go_sem] Oper.semAt_some

set_option maxRecDepth 100000 in
set_option maxHeartbeats 1000000 in
theorem find_no (x : Int) (w : World) (hx : x < 1) : Calls Try.prog 53 #[.int .i64 x] w fun e w' => e = .returned (.tuple #[.int .i64 0, .int .i64 0, .int .i64 1]) ∧ Below w.heap.size w w' := by
  go_enter Try.func53, Try.ntmps53
  go_wp2
  exact bodyPost_ret (v := .tuple #[.int .i64 0, .int .i64 0, .int .i64 1]) (by simp [results, Try.results53, go_sem]) rfl ⟨rfl, ((((Below.refl _ _).alloc (Nat.le_refl _) _).alloc (by simp) _).alloc (by simp; omega) _).alloc (by simp; omega) _⟩

theorem rnd_hit {x : Int} {k : Nat} (hx : 1 ≤ x) (hk : k < 43) (h1 : x ≤ Sz.sz k) (h2 : ∀ j ∈ List.range k, Sz.sz j < x) :
    Sz.cla x = k ∧ Sz.rnd x = Sz.sz k ∧ Sz.err x = 0 := by
  have hb := Sz.sz_bd hk
  have hc := Sz.cls_uniq hk h1 (fun j hj => h2 j (by simpa using hj))
  unfold Sz.cla Sz.rnd Sz.err
  rw [if_neg (by omega), if_neg (by omega), if_neg (by omega), if_neg (by omega), if_neg (by omega), if_neg (by omega), hc]
  exact ⟨rfl, rfl, rfl⟩
theorem rnd_miss {x : Int} (h2 : ∀ j ∈ List.range 43, Sz.sz j < x) : Sz.cla x = 0 ∧ Sz.rnd x = 0 ∧ Sz.err x = 4 := by
  have := h2 42 (by simp)
  rw [Sz.sz_last] at this
  unfold Sz.cla Sz.rnd Sz.err
  rw [if_neg (by omega), if_pos (by omega), if_neg (by omega), if_pos (by omega), if_neg (by omega), if_pos (by omega)]
  exact ⟨rfl, rfl, rfl⟩

/-- What the loop's cells hold between two rounds. -/
def findI (B : Nat) (x : Int) (pre : List Nat) (W : World) : Prop :=
  (∀ j ∈ pre, Sz.sz j < x) ∧ Boxed W B 3 (.int .i64 x) ∧ Boxed W (B + 1) 3 (.int .i64 0) ∧ Boxed W (B + 1 + 1) 3 (.int .i64 0) ∧ Boxed W (B + 1 + 1 + 1) 25 (.int .i64 0)
def findX (B : Nat) (x : Int) (c : Code) (pre : List Nat) (W : World) : Prop :=
  ∃ q k, (c = .ret ∧ pre = q ++ [k] ∧ (∀ j ∈ q, Sz.sz j < x) ∧ x ≤ Sz.sz k) ∧ Boxed W B 3 (.int .i64 x) ∧ Boxed W (B + 1) 3 (.int .i64 k) ∧ Boxed W (B + 1 + 1) 3 (.int .i64 (Sz.sz k)) ∧ Boxed W (B + 1 + 1 + 1) 25 (.int .i64 0)
theorem findI_own (B : Nat) (x : Int) : Own (findI B x) := fun _ _ _ _ ⟨h0, h1, h2, h3, h4⟩ hg hr =>
  ⟨h0, box_keep h1 hg hr, box_keep h2 hg hr, box_keep h3 hg hr, box_keep h4 hg hr⟩
theorem findX_own (B : Nat) (x : Int) (c : Code) : Own (findX B x c) := fun _ _ _ _ ⟨q, k, h0, h1, h2, h3, h4⟩ hg hr =>
  ⟨q, k, h0, box_keep h1 hg hr, box_keep h2 hg hr, box_keep h3 hg hr, box_keep h4 hg hr⟩
set_option maxRecDepth 100000 in
set_option maxHeartbeats 2000000 in
theorem find_yes (x : Int) (w : World) (hx : 1 ≤ x) : CallsIn Fence.wide 5 Try.prog 53 #[.int .i64 x] w fun e w' => e = .returned (.tuple #[.int .i64 (Sz.cla x), .int .i64 (Sz.rnd x), .int .i64 (Sz.err x)]) ∧ Below w.heap.size w w' := by
  have hd : decide (x < 1) = false := by simp; omega
  refine callsIn_of_wp_marks Try.func53 rfl trivial ?_ rfl
  simp only [Try.ntmps53, List.size_toArray, List.length_cons, List.length_nil, Nat.reduceAdd, Nat.reduceSub, Array.replicate_succ, Array.replicate_zero, List.push_toArray, List.append_toArray, List.nil_append, List.cons_append]
  gi_wp2_with (refine ⟨trivial, ?_⟩; gi_at_call 60; refine (callsIn_wide.2 (sizes_any _)).mono ?_; rintro e w' ⟨rfl, rfl⟩)
  have hB0 : Below w.heap.size w ((((w.alloc (Obj.cells #[Value.int IntKind.i64 x] 3)).alloc (Obj.cells #[Value.int IntKind.i64 0] 3)).alloc (Obj.cells #[Value.int IntKind.i64 0] 3)).alloc (Obj.cells #[Value.int IntKind.i64 0] 25)) :=
    ((((Below.refl _ _).alloc (Nat.le_refl _) _).alloc (by simp) _).alloc (by simp; omega) _).alloc (by simp; omega) _
  have hI0 : findI w.heap.size x [] ((((w.alloc (Obj.cells #[Value.int IntKind.i64 x] 3)).alloc (Obj.cells #[Value.int IntKind.i64 0] 3)).alloc (Obj.cells #[Value.int IntKind.i64 0] 3)).alloc (Obj.cells #[Value.int IntKind.i64 0] 25)) := by
    have b1 := Boxed.new w 3 (.int .i64 x)
    have b2 := Boxed.new (w.alloc (Obj.cells #[Value.int IntKind.i64 x] 3)) 3 (.int .i64 0)
    have b3 := Boxed.new ((w.alloc (Obj.cells #[Value.int IntKind.i64 x] 3)).alloc (Obj.cells #[Value.int IntKind.i64 0] 3)) 3 (.int .i64 0)
    have b4 := Boxed.new (((w.alloc (Obj.cells #[Value.int IntKind.i64 x] 3)).alloc (Obj.cells #[Value.int IntKind.i64 0] 3)).alloc (Obj.cells #[Value.int IntKind.i64 0] 3)) 25 (.int .i64 0)
    simp only [World.size_alloc] at b2 b3 b4
    exact ⟨by simp, ((b1.alloc _).alloc _).alloc _, (b2.alloc _).alloc _, b3.alloc _, b4⟩
  have hsz : w.heap.size ≤ ((((w.alloc (Obj.cells #[Value.int IntKind.i64 x] 3)).alloc (Obj.cells #[Value.int IntKind.i64 0] 3)).alloc (Obj.cells #[Value.int IntKind.i64 0] 3)).alloc (Obj.cells #[Value.int IntKind.i64 0] 25)).heap.size := hB0.size
  obtain ⟨W0, hW0⟩ : ∃ W0, ((((w.alloc (Obj.cells #[Value.int IntKind.i64 x] 3)).alloc (Obj.cells #[Value.int IntKind.i64 0] 3)).alloc (Obj.cells #[Value.int IntKind.i64 0] 3)).alloc (Obj.cells #[Value.int IntKind.i64 0] 25)) = W0 := ⟨_, rfl⟩
  rw [hW0] at hB0 hI0 hsz ⊢
  clear hW0
  refine wpIn_rangeFunc_ownF rfl (by omega) (gf := 64) (lb := #[]) rfl trivial (enters_of Try.func64 (by kernel_rfl) rfl)
    (sizes_stops 3 W0) (fun _ _ => trivial) (fun _ _ _ _ _ _ _ _ => trivial) (Below.refl _ _) (fun _ => rfl)
    (fun pre W => findI w.heap.size x pre W ∧ Below w.heap.size w W)
    (fun c pre W => findX w.heap.size x c pre W ∧ Below w.heap.size w W)
    (OwnFrom.and ((findI_own _ _).from _) (ownFrom_below (Nat.le_refl _) hsz))
    (fun c => OwnFrom.and ((findX_own _ _ c).from _) (ownFrom_below (Nat.le_refl _) hsz))
    ⟨hI0, hB0⟩
    (fun k => { tmps := #[.int .i64 x, .pointer (some ⟨w.heap.size, 0, none⟩), .pointer (some ⟨w.heap.size + 1, 0, none⟩), .pointer (some ⟨w.heap.size + 1 + 1, 0, none⟩), .pointer (some ⟨w.heap.size + 1 + 1 + 1, 0, none⟩), .int .i64 k, .int .i64 (Sz.sz k), .int .i64 x, .bool false, .func (.func 64) #[] #[], .int .i64 k, .int .i64 (Sz.sz k), undef, undef, undef, undef, undef], defers := [] }) ?assign ?body ?done ?stop
  case assign =>
    intro l k W K hK
    gi_wp2
    exact hK
  case body =>
    rintro l pre k W ⟨⟨hlt, b1, b2, b3, b4⟩, hB⟩ hlen
    have c1 := b1.cell
    have c2 := b2.cell
    have c3 := b3.cell
    have c4 := b4.cell
    have f2 := b2.frozen
    have f3 := b3.frozen
    have f4 := b4.frozen
    gi_wp2
    · refine ⟨((KeepsOthers.setCell _ _ _).trans (KeepsOthers.setCell _ _ _)).trans (KeepsOthers.setCell _ _ _), ⟨pre, k, ⟨rfl, rfl, hlt, by assumption⟩, ?_, ?_, ?_, ?_⟩, ((hB.setCell (p := ⟨_, 0, none⟩) (by simp) _).setCell (p := ⟨_, 0, none⟩) (by simp; omega) _).setCell (p := ⟨_, 0, none⟩) (by simp; omega) _⟩
      · exact box_far (box_far (box_far b1 (by omega) _) (by omega) _) (by omega) _
      · exact box_far (box_far (b2.set _) (by omega) _) (by omega) _
      · exact box_far ((box_far b3 (by omega) _).set _) (by omega) _
      · exact (box_far (box_far b4 (by omega) _) (by omega) _).set _
    · refine ⟨KeepsOthers.refl _, trivial, ⟨fun j hj => ?_, b1, b2, b3, b4⟩, hB⟩
      rcases List.mem_append.1 hj with h | h
      · exact hlt j h
      · simp at h; subst h; assumption
  case done =>
    rintro D ys W hD rfl ⟨⟨hlt, b1, b2, b3, b4⟩, hB⟩ hK
    obtain ⟨r1, r2, r3⟩ := rnd_miss hlt
    have R := Lib.hid (And.intro r1 (And.intro r2 r3))
    clear r1 r2 r3
    have f2 := b2.frozen
    have f3 := b3.frozen
    have f4 := b4.frozen
    have c2 := b2.cell
    have c3 := b3.cell
    have c4 := b4.cell
    gi_wp2
    have hK' := (((KeepsOthers.setCell W ⟨w.heap.size + 1, 0, none⟩ (.int .i64 0)).trans (KeepsOthers.setCell _ ⟨w.heap.size + 1 + 1, 0, none⟩ (.int .i64 0))).trans (KeepsOthers.setCell _ ⟨w.heap.size + 1 + 1 + 1, 0, none⟩ (.int .i64 4))).same D _ hK rfl
    refine ⟨by simp, .inl ⟨_, _, rfl, run_takeDeferred hK', ?_⟩⟩
    have g2 := box_keep (box_far (box_far (b2.set (.int .i64 0)) (C := w.heap.size + 1 + 1) (by omega) (.int .i64 0)) (C := w.heap.size + 1 + 1 + 1) (by omega) (.int .i64 4)) (grownBy_putObj' _ D (.deferred none)) (fun r e => by cases e; exact ⟨_, hK', rfl⟩)
    have g3 := box_keep (box_far ((box_far b3 (C := w.heap.size + 1) (by omega) (.int .i64 0)).set (.int .i64 0)) (C := w.heap.size + 1 + 1 + 1) (by omega) (.int .i64 4)) (grownBy_putObj' _ D (.deferred none)) (fun r e => by cases e; exact ⟨_, hK', rfl⟩)
    have g4 := box_keep ((box_far (box_far b4 (C := w.heap.size + 1) (by omega) (.int .i64 0)) (C := w.heap.size + 1 + 1) (by omega) (.int .i64 0)).set (.int .i64 4)) (grownBy_putObj' _ D (.deferred none)) (fun r e => by cases e; exact ⟨_, hK', rfl⟩)
    refine ⟨.tuple #[.int .i64 0, .int .i64 0, .int .i64 4], ?_, by rw [R.out.1, R.out.2.1, R.out.2.2], ((((hB.setCell (p := ⟨_, 0, none⟩) (by simp) _).setCell (p := ⟨_, 0, none⟩) (by simp; omega) _).setCell (p := ⟨_, 0, none⟩) (by simp; omega) _)).trans (belowK_b (w := w) (Nat.le_refl _) _ D _ _ (by omega) hK' rfl rfl)⟩
    simp [results, Try.f53, go_sem, g2.cell, g3.cell, g4.cell]
  case stop =>
    rintro D c pre W hD ⟨k', hk', hpre⟩ ⟨⟨q, k, ⟨rfl, rfl, hlt, hle⟩, b1, b2, b3, b4⟩, hB⟩ hK
    obtain ⟨rfl, rfl⟩ : q = List.range k' ∧ k = k' := by
      rw [List.range_succ] at hpre
      have := List.append_inj' hpre rfl
      exact ⟨this.1, by simpa using this.2⟩
    obtain ⟨r1, r2, r3⟩ := rnd_hit hx hk' hle hlt
    have R := Lib.hid (And.intro r1 (And.intro r2 r3))
    clear r1 r2 r3
    gi_wp2
    refine ⟨by simp, .inl ⟨_, _, rfl, run_takeDeferred hK, ?_⟩⟩
    have g2 := box_keep b2 (grownBy_putObj' _ D (.deferred none)) (fun r e => by cases e; exact ⟨_, hK, rfl⟩)
    have g3 := box_keep b3 (grownBy_putObj' _ D (.deferred none)) (fun r e => by cases e; exact ⟨_, hK, rfl⟩)
    have g4 := box_keep b4 (grownBy_putObj' _ D (.deferred none)) (fun r e => by cases e; exact ⟨_, hK, rfl⟩)
    refine ⟨.tuple #[.int .i64 k, .int .i64 (Sz.sz k), .int .i64 0], ?_, by rw [R.out.1, R.out.2.1, R.out.2.2], hB.trans (belowK_b (w := w) (Nat.le_refl _) _ D _ _ (by omega) hK rfl rfl)⟩
    simp [results, Try.f53, go_sem, g2.cell, g3.cell, g4.cell]

theorem find_any (x : Int) (w : World) : Calls Try.prog 53 #[.int .i64 x] w fun e w' => e = .returned (.tuple #[.int .i64 (Sz.cla x), .int .i64 (Sz.rnd x), .int .i64 (Sz.err x)]) ∧ Below w.heap.size w w' := by
  by_cases hx : x < 1
  · unfold Sz.cla Sz.rnd Sz.err
    rw [if_pos hx, if_pos hx, if_pos hx]
    exact find_no x w hx
  · exact callsIn_wide.1 (find_yes x w (by omega))

set_option maxHeartbeats 1000000 in
/-- Round. -/
theorem round_any (x : Int) (w : World) : Calls Try.prog 46 #[.int .i64 x] w fun e w' => e = .returned (.tuple #[.int .i64 (Sz.rnd x), .int .i64 (Sz.err x)]) ∧ Below w.heap.size w w' := by
  go_enter Try.func46, Try.ntmps46
  go_wp2_with (go_at_call 53; refine (find_any _ _).mono ?_; rintro e w' ⟨rfl, hb⟩)
  go_ret2
  exact ⟨rfl, hb⟩
end Go.Proofs.Ytejogdielfgeoaa
/- Plain facts on lists of extents: which are valid, and what the functions of layer 4 come to. No program in sight. -/
namespace Go.Proofs.Ytejogdielfgeoaa

/-- An extent: where it begins, and how long it is. -/
structure Ext where
  off : Int
  len : Int
deriving DecidableEq, Repr
namespace Ext
def end_ (e : Ext) : Int := e.off + e.len
def prop (e : Ext) : Prop := 0 ≤ e.off ∧ 0 < e.len ∧ e.off + e.len ≤ 1048576
instance (e : Ext) : Decidable e.prop := by unfold prop; exact inferInstance
def propB (e : Ext) : Bool := decide e.prop
end Ext

namespace Ex
def get (xs : List Ext) (i : Nat) : Ext := xs.getD i ⟨0, 0⟩
/-- What Valid asks of place i. -/
def okAt (xs : List Ext) (i : Nat) : Prop := (get xs i).prop ∧ (0 < i → (get xs (i - 1)).end_ < (get xs i).off)
instance (xs : List Ext) (i : Nat) : Decidable (okAt xs i) := by unfold okAt; exact inferInstance
def okUpto (xs : List Ext) (k : Nat) : Prop := ∀ i, i < k → okAt xs i
def vld (xs : List Ext) : Prop := okUpto xs xs.length
def vldB (xs : List Ext) : Bool := (List.range xs.length).all fun i => decide (okAt xs i)
theorem vldB_iff (xs : List Ext) : vldB xs = true ↔ vld xs := by simp [vldB, vld, okUpto]
theorem vldB_yes {xs : List Ext} (h : okUpto xs xs.length) : vldB xs = true := (vldB_iff xs).2 h
theorem vldB_no {xs : List Ext} {i : Nat} (hi : i < xs.length) (h : ¬ okAt xs i) : vldB xs = false := by
  cases hv : vldB xs with
  | false => rfl
  | true => exact absurd ((vldB_iff xs).1 hv i hi) h
theorem okUpto_succ {xs : List Ext} {k : Nat} (h : okUpto xs k) (hk : okAt xs k) : okUpto xs (k + 1) := fun i hi => by
  rcases Nat.lt_or_ge i k with h' | h'
  · exact h i h'
  · obtain rfl : i = k := by omega
    exact hk
/-- The first place whose extent ends behind an offset. -/
def aftFrom (xs : List Ext) (o : Int) : Nat → Nat → Nat
  | 0, k => k
  | f + 1, k => if (get xs k).end_ ≤ o then aftFrom xs o f (k + 1) else k
def aft (xs : List Ext) (o : Int) : Nat := aftFrom xs o xs.length 0
theorem aftFrom_eq (xs : List Ext) (o : Int) (i : Nat) (hi : i ≤ xs.length) (h1 : ∀ k, k < i → (get xs k).end_ ≤ o) (h2 : i < xs.length → o < (get xs i).end_) :
    ∀ f k, k + f = xs.length → k ≤ i → aftFrom xs o f k = i
  | 0, k, h, hk => by unfold aftFrom; omega
  | f + 1, k, h, hk => by
    unfold aftFrom
    by_cases hlt : k < i
    · rw [if_pos (h1 k hlt)]
      exact aftFrom_eq xs o i hi h1 h2 f (k + 1) (by omega) (by omega)
    · obtain rfl : k = i := by omega
      rw [if_neg (by have := h2 (by omega); omega)]
theorem aft_eq {xs : List Ext} {o : Int} {i : Nat} (hi : i ≤ xs.length) (h1 : ∀ k, k < i → (get xs k).end_ ≤ o) (h2 : i < xs.length → o < (get xs i).end_) : aft xs o = i :=
  aftFrom_eq xs o i hi h1 h2 _ 0 (by omega) (by omega)

/-- Insert's result out of the place i: joined with the one before. -/
def insL (xs : List Ext) (e : Ext) (i : Nat) : Nat × Ext := if 0 < i ∧ (get xs (i - 1)).end_ = e.off then (i - 1, ⟨(get xs (i - 1)).off, (get xs (i - 1)).len + e.len⟩) else (i, e)
/-- .. and with the one at i. -/
def insR (xs : List Ext) (e : Ext) (i : Nat) : Nat × Ext := if i < xs.length ∧ (get xs i).off = e.end_ then (i + 1, ⟨e.off, e.len + (get xs i).len⟩) else (i, e)
instance (xs : List Ext) : Decidable (vld xs) := decidable_of_iff _ (vldB_iff xs)
def insF (xs : List Ext) (e : Ext) : List Ext × Int :=
  if ¬ vld xs ∨ ¬ e.prop then ([], 1)
  else if aft xs e.off < xs.length ∧ (get xs (aft xs e.off)).off < e.end_ then ([], 5)
  else (xs.take (insL xs e (aft xs e.off)).1 ++ ([(insR xs (insL xs e (aft xs e.off)).2 (aft xs e.off)).2] ++ xs.drop (insR xs (insL xs e (aft xs e.off)).2 (aft xs e.off)).1), 0)
end Ex
end Go.Proofs.Ytejogdielfgeoaa
/- Contracts of the small functions of layer 4: end, proper, and the reference's Proper. -/
namespace Go.Proofs.Ytejogdielfgeoaa
open Go.RowKit Go.Shelf
set_option linter.unusedVariables false

set_option maxHeartbeats 400000 in
theorem end_any (o l : Int) (w : World) (h1 : -9223372036854775808 ≤ o + l) (h2 : o + l ≤ 9223372036854775807) :
    Calls Try.prog 45 #[.agg #[.int .i64 o, .int .i64 l]] w fun e w' => e = .returned (.int .i64 (o + l)) ∧ Below w.heap.size w w' := by
  go_enter Try.func45, Try.ntmps45
  go_wp2
  go_ret
  exact ⟨rfl, (Below.refl _ _).alloc (Nat.le_refl _) _⟩

theorem prop_yes {o l : Int} (a : 0 ≤ o) (b : 0 < l) (c : l ≤ 1048576) (d : o ≤ 1048576 - l) : Ext.propB ⟨o, l⟩ = true := decide_eq_true (by unfold Ext.prop; dsimp only; omega)
theorem prop_no {o l : Int} (h : o < 0 ∨ l ≤ 0 ∨ 1048576 < l ∨ 1048576 - l < o) : Ext.propB ⟨o, l⟩ = false := decide_eq_false (by unfold Ext.prop; dsimp only; omega)

set_option maxHeartbeats 1000000 in
theorem proper_any (o l : Int) (w : World) :
    Calls Try.prog 47 #[.agg #[.int .i64 o, .int .i64 l]] w fun e w' => e = .returned (.bool (Ext.propB ⟨o, l⟩)) ∧ Below w.heap.size w w' := by
  by_cases a : 0 ≤ o
  · by_cases b : 0 < l
    · by_cases c : l ≤ 1048576
      · by_cases d : o ≤ 1048576 - l
        · rw [prop_yes a b c d]
          go_enter Try.func47, Try.ntmps47
          go_wp2
          go_ret
          exact ⟨rfl, (Below.refl _ _).alloc (Nat.le_refl _) _⟩
        · rw [prop_no (.inr (.inr (.inr (by omega))))]
          go_enter Try.func47, Try.ntmps47
          go_wp2
          go_ret
          exact ⟨rfl, (Below.refl _ _).alloc (Nat.le_refl _) _⟩
      · rw [prop_no (.inr (.inr (.inl (by omega))))]
        go_enter Try.func47, Try.ntmps47
        go_wp2
        go_ret
        exact ⟨rfl, (Below.refl _ _).alloc (Nat.le_refl _) _⟩
    · rw [prop_no (.inr (.inl (by omega)))]
      go_enter Try.func47, Try.ntmps47
      go_wp2
      go_ret
      exact ⟨rfl, (Below.refl _ _).alloc (Nat.le_refl _) _⟩
  · rw [prop_no (.inl (by omega))]
    go_enter Try.func47, Try.ntmps47
    go_wp2
    go_ret
    exact ⟨rfl, (Below.refl _ _).alloc (Nat.le_refl _) _⟩

set_option maxHeartbeats 1000000 in
theorem rproper_any (o l : Int) (w : World) (bl1 : -9223372036854775808 ≤ l) (bl2 : l ≤ 9223372036854775807) :
    Calls Try.prog 40 #[.agg #[.int .i64 o, .int .i64 l]] w fun e w' => e = .returned (.bool (Ext.propB ⟨o, l⟩)) ∧ Below w.heap.size w w' := by
  by_cases a : 0 ≤ o
  · by_cases b : 0 < l
    · by_cases c : o ≤ 1048576
      · by_cases d : l ≤ 1048576 - o
        · rw [prop_yes a b (by omega) (by omega)]
          go_enter Try.func40, Try.ntmps40
          go_wp2
          go_ret
          exact ⟨rfl, (Below.refl _ _).alloc (Nat.le_refl _) _⟩
        · rw [prop_no (by omega)]
          go_enter Try.func40, Try.ntmps40
          go_wp2
          go_ret
          exact ⟨rfl, (Below.refl _ _).alloc (Nat.le_refl _) _⟩
      · rw [prop_no (by omega)]
        go_enter Try.func40, Try.ntmps40
        go_wp2
        go_ret
        exact ⟨rfl, (Below.refl _ _).alloc (Nat.le_refl _) _⟩
    · rw [prop_no (by omega)]
      go_enter Try.func40, Try.ntmps40
      go_wp2
      go_ret
      exact ⟨rfl, (Below.refl _ _).alloc (Nat.le_refl _) _⟩
  · rw [prop_no (by omega)]
    go_enter Try.func40, Try.ntmps40
    go_wp2
    go_ret
    exact ⟨rfl, (Below.refl _ _).alloc (Nat.le_refl _) _⟩

theorem proper_yes (x : Ext) (w : World) (h : x.prop) : Calls Try.prog 47 #[.agg #[.int .i64 x.off, .int .i64 x.len]] w fun e w' => e = .returned (.bool true) ∧ Below w.heap.size w w' := by
  have := proper_any x.off x.len w
  rwa [show Ext.propB ⟨x.off, x.len⟩ = true from decide_eq_true h] at this
theorem proper_no (x : Ext) (w : World) (h : ¬ x.prop) : Calls Try.prog 47 #[.agg #[.int .i64 x.off, .int .i64 x.len]] w fun e w' => e = .returned (.bool false) ∧ Below w.heap.size w w' := by
  have := proper_any x.off x.len w
  rwa [show Ext.propB ⟨x.off, x.len⟩ = false from decide_eq_false h] at this
theorem end_prop (x : Ext) (w : World) (h : x.prop) : Calls Try.prog 45 #[.agg #[.int .i64 x.off, .int .i64 x.len]] w fun e w' => e = .returned (.int .i64 x.end_) ∧ Below w.heap.size w w' := by
  obtain ⟨h1, h2, h3⟩ := h
  exact end_any x.off x.len w (by omega) (by omega)
theorem rproper_yes (x : Ext) (w : World) (h : x.prop) : Calls Try.prog 40 #[.agg #[.int .i64 x.off, .int .i64 x.len]] w fun e w' => e = .returned (.bool true) ∧ Below w.heap.size w w' := by
  have := rproper_any x.off x.len w (by have := h.2.1; omega) (by have := h.2.2; have := h.1; omega)
  rwa [show Ext.propB ⟨x.off, x.len⟩ = true from decide_eq_true h] at this
theorem rproper_no (x : Ext) (w : World) (b1 : -9223372036854775808 ≤ x.len) (b2 : x.len ≤ 9223372036854775807) (h : ¬ x.prop) : Calls Try.prog 40 #[.agg #[.int .i64 x.off, .int .i64 x.len]] w fun e w' => e = .returned (.bool false) ∧ Below w.heap.size w w' := by
  have := rproper_any x.off x.len w b1 b2
  rwa [show Ext.propB ⟨x.off, x.len⟩ = false from decide_eq_false h] at this
end Go.Proofs.Ytejogdielfgeoaa
/- Contracts of Valid and the reference's ValidSet. -/
namespace Go.Proofs.Ytejogdielfgeoaa
open Go.RowKit Go.Shelf
set_option linter.unusedVariables false

/-- The slice value '.slice A n c' reads as the list xs of extents; its block lies below B. -/
structure Exts (w : World) (B : Nat) (A : Option Addr) (n c : Nat) (xs : List Ext) : Prop where
  len : xs.length = n
  cap : n ≤ c
  max : c ≤ 9223372036854775807
  cells : 0 < n → ∃ b off, A = some ⟨b, off, none⟩ ∧ b < B ∧ ∀ i, i < n → w.cell? ⟨b, off + i * 2, none⟩ = some (.int .i64 (Ex.get xs i).off) ∧ w.cell? ⟨b, off + i * 2 + 1, none⟩ = some (.int .i64 (Ex.get xs i).len)
theorem Exts.below {w w' : World} {B n c : Nat} {A : Option Addr} {xs : List Ext} (h : Exts w B A n c xs) (hb : Below B w w') : Exts w' B A n c xs :=
  ⟨h.len, h.cap, h.max, fun hn => by
    obtain ⟨b, off, e, hB, hc⟩ := h.cells hn
    exact ⟨b, off, e, hB, fun i hi => ⟨((bcell hb).1 _ _ hB).trans (hc i hi).1, ((bcell hb).1 _ _ hB).trans (hc i hi).2⟩⟩⟩
theorem Exts.more {w : World} {B B' n c : Nat} {A : Option Addr} {xs : List Ext} (h : Exts w B A n c xs) (hB : B ≤ B') : Exts w B' A n c xs :=
  ⟨h.len, h.cap, h.max, fun hn => by
    obtain ⟨b, off, e, hb, hc⟩ := h.cells hn
    exact ⟨b, off, e, by omega, hc⟩⟩

theorem Exts.at_ {w : World} {B n c b off : Nat} {A : Option Addr} {xs : List Ext} (h : Exts w B A n c xs) (hA : A = some ⟨b, off, none⟩) {i : Nat} (hi : i < n) :
    w.cell? ⟨b, off + i * 2, none⟩ = some (.int .i64 (Ex.get xs i).off) ∧ w.cell? ⟨b, off + i * 2 + 1, none⟩ = some (.int .i64 (Ex.get xs i).len) := by
  obtain ⟨b', off', e, _, hc⟩ := h.cells (by omega)
  rw [hA] at e
  cases e
  exact hc i hi
theorem cell_on {w w' : World} {a : Addr} {v : Value} (h : w.cell? a = some v) (hb : Below w.heap.size w w') : w'.cell? a = some v := (hb.cell (World.block_lt_of_cell? w a h)).trans h
theorem below_on {n : Nat} {W w w' : World} (h : Below n W w) (hn : n ≤ W.heap.size) (hb : Below w.heap.size w w') : Below n W w' := h.trans (hb.mono (Nat.le_trans hn h.size))

set_option maxRecDepth 100000 in
set_option maxHeartbeats 1000000 in
theorem valid_any (A : Option Addr) (n c : Nat) (xs : List Ext) (w : World) (hE : Exts w w.heap.size A n c xs) :
    Calls Try.prog 44 #[.slice A n c] w fun e w' => e = .returned (.bool (Ex.vldB xs)) ∧ Below w.heap.size w w' := by
  have hlen := hE.len
  have hn : n ≤ 9223372036854775807 := Nat.le_trans hE.cap hE.max
  have HE := Lib.hid hE
  have HL := Lib.hid hlen
  clear hE hlen
  go_enter Try.func44, Try.ntmps44
  go_wp2
  go_loopw [7] (fun i wr => ∃ k : Nat, k ≤ n ∧ i = .int .i64 (k : Int) ∧ Hid (Ex.okUpto xs k) ∧ Below w.heap.size w wr) (fun i _ => n - (intOf i).toNat)
  case atStart => exact ⟨0, by omega, rfl, fun i hi => by omega, Below.refl _ _⟩
  case round =>
    obtain ⟨k, hk, rfl, hok, hB⟩ := hrel
    by_cases hlt : k < n
    · obtain ⟨b, off, rfl, hb, hc⟩ := (HE.out.below hB).cells (by omega)
      obtain ⟨hc1, hc2⟩ := hc k hlt
      obtain ⟨x, hx⟩ : ∃ x, Ex.get xs k = x := ⟨_, rfl⟩
      rw [hx] at hc1 hc2
      have HX := Lib.hid hx
      clear hx hc
      have hBa : Below w.heap.size w (wr.alloc (Obj.cells #[Value.int IntKind.i64 x.off, Value.int IntKind.i64 x.len] 39)) := hB.alloc hB.size _
      have ha : ∀ (b' o' : Nat), b' < wr.heap.size → (wr.alloc (Obj.cells #[Value.int IntKind.i64 x.off, Value.int IntKind.i64 x.len] 39)).drew.cell? ⟨b', o', none⟩ = wr.cell? ⟨b', o', none⟩ := fun b' o' h => World.cell?_alloc_lt _ _ _ h
      have hbw : b < wr.heap.size := Nat.lt_of_lt_of_le hb hB.size
      go_wp2
      by_cases hp : x.prop
      · by_cases h0 : 0 < k
        · obtain ⟨j, rfl⟩ : ∃ j, k = j + 1 := ⟨k - 1, by omega⟩
          have hyp := (hok.out j (by omega)).1
          obtain ⟨y, hy⟩ : ∃ y, Ex.get xs j = y := ⟨_, rfl⟩
          obtain ⟨hd1, hd2⟩ := (HE.out.below hB).at_ rfl (i := j) (by omega)
          rw [hy] at hd1 hd2 hyp
          have HY := Lib.hid hy
          clear hy
          have hS : (wr.alloc (Obj.cells #[Value.int IntKind.i64 x.off, Value.int IntKind.i64 x.len] 39)).drew.cell? ⟨wr.heap.size, 0, none⟩ = some (.int .i64 x.off) ∧ (wr.alloc (Obj.cells #[Value.int IntKind.i64 x.off, Value.int IntKind.i64 x.len] 39)).drew.cell? ⟨wr.heap.size, 1, none⟩ = some (.int .i64 x.len) ∧ (wr.alloc (Obj.cells #[Value.int IntKind.i64 x.off, Value.int IntKind.i64 x.len] 39)).drew.cell? ⟨b, off + j * 2, none⟩ = some (.int .i64 y.off) ∧ (wr.alloc (Obj.cells #[Value.int IntKind.i64 x.off, Value.int IntKind.i64 x.len] 39)).drew.cell? ⟨b, off + j * 2 + 1, none⟩ = some (.int .i64 y.len) ∧ Below w.heap.size w (wr.alloc (Obj.cells #[Value.int IntKind.i64 x.off, Value.int IntKind.i64 x.len] 39)).drew :=
            ⟨by simp, by simp, (ha _ _ hbw).trans hd1, (ha _ _ hbw).trans hd2, hBa.drew⟩
          clear ha
          have hwj : IntKind.i64.wrap (j : Int) = j := IntWalk.i64_in _ (by omega)
          have hjn : (j : Int) < n := by omega
          have hj0 : (0 : Int) ≤ j := by omega
          have hyb : 0 ≤ y.off ∧ 0 < y.len ∧ y.off + y.len ≤ 1048576 := hyp
          by_cases hg : y.end_ < x.off
          · have hgd : decide (x.off ≤ y.end_) = false := by simp; omega
            refine wp_region_plan [(true, 0), (false, 1), (true, 2), (true, 3), (true, 4), (true, 5), (true, 6), (true, 7), (true, 8), (true, 9), (true, 10), (true, 11), (true, 12), (true, 13), (false, 14), (true, 15), (true, 16), (true, 17)] (fun w' => w'.cell? ⟨wr.heap.size, 0, none⟩ = some (.int .i64 x.off) ∧ w'.cell? ⟨wr.heap.size, 1, none⟩ = some (.int .i64 x.len) ∧ w'.cell? ⟨b, off + j * 2, none⟩ = some (.int .i64 y.off) ∧ w'.cell? ⟨b, off + j * 2 + 1, none⟩ = some (.int .i64 y.len) ∧ Below w.heap.size w w') [] (by kernel_rfl) (by kernel_rfl) (by kernel_rfl) rfl (by intro _ d _ _ _ h; cases d <;> exact h) ?_
            iterate 1 ((refine plan_yes (v := ?_) hS rfl (by rfl) (fun W hW => ?_) ?_; rotate_left; focus ((try dsimp only at hW); go_simp; (try with_reducible rfl); done)); (try simp only [Act.put, List.setIfInBounds_toArray, List.set_cons_zero, List.set_cons_succ]))
            refine plan_act rfl (fun K hK => ?_)
            go_wp2_with (go_at_call 47; refine (proper_yes x _ hp).mono ?_; rintro e w1 ⟨rfl, hb1⟩)
            have hS1 : w1.cell? ⟨wr.heap.size, 0, none⟩ = some (.int .i64 x.off) ∧ w1.cell? ⟨wr.heap.size, 1, none⟩ = some (.int .i64 x.len) ∧ w1.cell? ⟨b, off + j * 2, none⟩ = some (.int .i64 y.off) ∧ w1.cell? ⟨b, off + j * 2 + 1, none⟩ = some (.int .i64 y.len) ∧ Below w.heap.size w w1 :=
              ⟨cell_on hS.1 hb1, cell_on hS.2.1 hb1, cell_on hS.2.2.1 hb1, cell_on hS.2.2.2.1 hb1, below_on hS.2.2.2.2 (Nat.le_refl _) hb1⟩
            refine hK _ _ (fun _ => hS1) ?_
            clear hK K hb1 hS
            (try simp only [Act.put, List.setIfInBounds_toArray, List.set_cons_zero, List.set_cons_succ])
            iterate 12 ((refine plan_yes (v := ?_) hS1 rfl (by rfl) (fun W hW => ?_) ?_; rotate_left; focus ((try dsimp only at hW); go_simp; (try with_reducible rfl); done)); (try simp only [Act.put, List.setIfInBounds_toArray, List.set_cons_zero, List.set_cons_succ]))
            refine plan_act rfl (fun K hK => ?_)
            go_wp2_with (go_at_call 45; refine (end_prop y _ hyp).mono ?_; rintro e w2 ⟨rfl, hb2⟩)
            have hS2 : w2.cell? ⟨wr.heap.size, 0, none⟩ = some (.int .i64 x.off) ∧ w2.cell? ⟨wr.heap.size, 1, none⟩ = some (.int .i64 x.len) ∧ w2.cell? ⟨b, off + j * 2, none⟩ = some (.int .i64 y.off) ∧ w2.cell? ⟨b, off + j * 2 + 1, none⟩ = some (.int .i64 y.len) ∧ Below w.heap.size w w2 :=
              ⟨cell_on hS1.1 hb2, cell_on hS1.2.1 hb2, cell_on hS1.2.2.1 hb2, cell_on hS1.2.2.2.1 hb2, below_on hS1.2.2.2.2 (Nat.le_refl _) hb2⟩
            refine hK _ _ (fun _ => hS2) ?_
            clear hK K hb2 hS1
            (try simp only [Act.put, List.setIfInBounds_toArray, List.set_cons_zero, List.set_cons_succ])
            iterate 3 ((refine plan_yes (v := ?_) hS2 rfl (by rfl) (fun W hW => ?_) ?_; rotate_left; focus ((try dsimp only at hW); go_simp; (try with_reducible rfl); done)); (try simp only [Act.put, List.setIfInBounds_toArray, List.set_cons_zero, List.set_cons_succ]))
            refine plan_done ?_
            go_wp2
            go_roundw
            case rel => exact ⟨j + 1 + 1, by omega, by go_num, Ex.okUpto_succ hok.out ⟨by rw [HX.out]; exact hp, fun h => by rw [HX.out, show j + 1 - 1 = j from rfl, HY.out]; exact hg⟩, hS2.2.2.2.2⟩
            case measure => simp [intOf]; omega
          · have hgd : decide (x.off ≤ y.end_) = true := by simp; omega
            refine wp_region_plan [(true, 0), (false, 1), (true, 2), (true, 3), (true, 4), (true, 5), (true, 6), (true, 7), (true, 8), (true, 9), (true, 10), (true, 11), (true, 12), (true, 13), (false, 14), (true, 15), (true, 16), (true, 17)] (fun w' => w'.cell? ⟨wr.heap.size, 0, none⟩ = some (.int .i64 x.off) ∧ w'.cell? ⟨wr.heap.size, 1, none⟩ = some (.int .i64 x.len) ∧ w'.cell? ⟨b, off + j * 2, none⟩ = some (.int .i64 y.off) ∧ w'.cell? ⟨b, off + j * 2 + 1, none⟩ = some (.int .i64 y.len) ∧ Below w.heap.size w w') [] (by kernel_rfl) (by kernel_rfl) (by kernel_rfl) rfl (by intro _ d _ _ _ h; cases d <;> exact h) ?_
            iterate 1 ((refine plan_yes (v := ?_) hS rfl (by rfl) (fun W hW => ?_) ?_; rotate_left; focus ((try dsimp only at hW); go_simp; (try with_reducible rfl); done)); (try simp only [Act.put, List.setIfInBounds_toArray, List.set_cons_zero, List.set_cons_succ]))
            refine plan_act rfl (fun K hK => ?_)
            go_wp2_with (go_at_call 47; refine (proper_yes x _ hp).mono ?_; rintro e w1 ⟨rfl, hb1⟩)
            have hS1 : w1.cell? ⟨wr.heap.size, 0, none⟩ = some (.int .i64 x.off) ∧ w1.cell? ⟨wr.heap.size, 1, none⟩ = some (.int .i64 x.len) ∧ w1.cell? ⟨b, off + j * 2, none⟩ = some (.int .i64 y.off) ∧ w1.cell? ⟨b, off + j * 2 + 1, none⟩ = some (.int .i64 y.len) ∧ Below w.heap.size w w1 :=
              ⟨cell_on hS.1 hb1, cell_on hS.2.1 hb1, cell_on hS.2.2.1 hb1, cell_on hS.2.2.2.1 hb1, below_on hS.2.2.2.2 (Nat.le_refl _) hb1⟩
            refine hK _ _ (fun _ => hS1) ?_
            clear hK K hb1 hS
            (try simp only [Act.put, List.setIfInBounds_toArray, List.set_cons_zero, List.set_cons_succ])
            iterate 12 ((refine plan_yes (v := ?_) hS1 rfl (by rfl) (fun W hW => ?_) ?_; rotate_left; focus ((try dsimp only at hW); go_simp; (try with_reducible rfl); done)); (try simp only [Act.put, List.setIfInBounds_toArray, List.set_cons_zero, List.set_cons_succ]))
            refine plan_act rfl (fun K hK => ?_)
            go_wp2_with (go_at_call 45; refine (end_prop y _ hyp).mono ?_; rintro e w2 ⟨rfl, hb2⟩)
            have hS2 : w2.cell? ⟨wr.heap.size, 0, none⟩ = some (.int .i64 x.off) ∧ w2.cell? ⟨wr.heap.size, 1, none⟩ = some (.int .i64 x.len) ∧ w2.cell? ⟨b, off + j * 2, none⟩ = some (.int .i64 y.off) ∧ w2.cell? ⟨b, off + j * 2 + 1, none⟩ = some (.int .i64 y.len) ∧ Below w.heap.size w w2 :=
              ⟨cell_on hS1.1 hb2, cell_on hS1.2.1 hb2, cell_on hS1.2.2.1 hb2, cell_on hS1.2.2.2.1 hb2, below_on hS1.2.2.2.2 (Nat.le_refl _) hb2⟩
            refine hK _ _ (fun _ => hS2) ?_
            clear hK K hb2 hS1
            (try simp only [Act.put, List.setIfInBounds_toArray, List.set_cons_zero, List.set_cons_succ])
            iterate 3 ((refine plan_yes (v := ?_) hS2 rfl (by rfl) (fun W hW => ?_) ?_; rotate_left; focus ((try dsimp only at hW); go_simp; (try with_reducible rfl); done)); (try simp only [Act.put, List.setIfInBounds_toArray, List.set_cons_zero, List.set_cons_succ]))
            refine plan_done ?_
            go_wp2
            go_ret
            exact ⟨ret_bool (Ex.vldB_no (i := j + 1) (by rw [HL.out]; exact hlt) (fun h => by have h2 := h.2 (by omega); rw [HX.out, show j + 1 - 1 = j from rfl, HY.out] at h2; omega)).symm, hS2.2.2.2.2⟩
        · have hS : (wr.alloc (Obj.cells #[Value.int IntKind.i64 x.off, Value.int IntKind.i64 x.len] 39)).drew.cell? ⟨wr.heap.size, 0, none⟩ = some (.int .i64 x.off) ∧ (wr.alloc (Obj.cells #[Value.int IntKind.i64 x.off, Value.int IntKind.i64 x.len] 39)).drew.cell? ⟨wr.heap.size, 1, none⟩ = some (.int .i64 x.len) ∧ Below w.heap.size w (wr.alloc (Obj.cells #[Value.int IntKind.i64 x.off, Value.int IntKind.i64 x.len] 39)).drew :=
            ⟨by simp, by simp, hBa.drew⟩
          refine wp_region_plan [(true, 0), (false, 1), (true, 2), (true, 3), (true, 4), (true, 5), (true, 6), (true, 7), (true, 8), (true, 9), (true, 10), (true, 11), (true, 12), (true, 13), (false, 14), (true, 15), (true, 16), (true, 17)] (fun w' => w'.cell? ⟨wr.heap.size, 0, none⟩ = some (.int .i64 x.off) ∧ w'.cell? ⟨wr.heap.size, 1, none⟩ = some (.int .i64 x.len) ∧ Below w.heap.size w w') [] (by kernel_rfl) (by kernel_rfl) (by kernel_rfl) rfl (by intro _ d _ _ _ h; cases d <;> exact h) ?_
          iterate 1 ((refine plan_yes (v := ?_) hS rfl (by rfl) (fun W hW => ?_) ?_; rotate_left; focus ((try dsimp only at hW); go_simp; (try with_reducible rfl); done)); (try simp only [Act.put, List.setIfInBounds_toArray, List.set_cons_zero, List.set_cons_succ]))
          refine plan_act rfl (fun K hK => ?_)
          go_wp2_with (go_at_call 47; refine (proper_yes x _ hp).mono ?_; rintro e w1 ⟨rfl, hb1⟩)
          have hS1 : w1.cell? ⟨wr.heap.size, 0, none⟩ = some (.int .i64 x.off) ∧ w1.cell? ⟨wr.heap.size, 1, none⟩ = some (.int .i64 x.len) ∧ Below w.heap.size w w1 :=
            ⟨cell_on hS.1 hb1, cell_on hS.2.1 hb1, below_on hS.2.2 (Nat.le_refl _) hb1⟩
          refine hK _ _ (fun _ => hS1) ?_
          clear hK K hb1 hS
          (try simp only [Act.put, List.setIfInBounds_toArray, List.set_cons_zero, List.set_cons_succ])
          iterate 5 ((refine plan_yes (v := ?_) hS1 rfl (by rfl) (fun W hW => ?_) ?_; rotate_left; focus ((try dsimp only at hW); go_simp; (try with_reducible rfl); done)); (try simp only [Act.put, List.setIfInBounds_toArray, List.set_cons_zero, List.set_cons_succ]))
          iterate 7 (refine plan_no hS1 rfl (by rfl) ?_; (try simp only [Act.put, List.setIfInBounds_toArray, List.set_cons_zero, List.set_cons_succ]))
          refine plan_skip rfl (by rfl) hS1 ?_
          (try simp only [Act.put, List.setIfInBounds_toArray, List.set_cons_zero, List.set_cons_succ])
          iterate 1 (refine plan_no hS1 rfl (by rfl) ?_; (try simp only [Act.put, List.setIfInBounds_toArray, List.set_cons_zero, List.set_cons_succ]))
          iterate 2 ((refine plan_yes (v := ?_) hS1 rfl (by rfl) (fun W hW => ?_) ?_; rotate_left; focus ((try dsimp only at hW); go_simp; (try with_reducible rfl); done)); (try simp only [Act.put, List.setIfInBounds_toArray, List.set_cons_zero, List.set_cons_succ]))
          refine plan_done ?_
          go_wp2
          go_roundw
          case rel => exact ⟨k + 1, by omega, by go_num, Ex.okUpto_succ hok.out ⟨by rw [HX.out]; exact hp, fun h => absurd h h0⟩, hS1.2.2⟩
          case measure => simp [intOf]; omega
      · have hS : (wr.alloc (Obj.cells #[Value.int IntKind.i64 x.off, Value.int IntKind.i64 x.len] 39)).drew.cell? ⟨wr.heap.size, 0, none⟩ = some (.int .i64 x.off) ∧ (wr.alloc (Obj.cells #[Value.int IntKind.i64 x.off, Value.int IntKind.i64 x.len] 39)).drew.cell? ⟨wr.heap.size, 1, none⟩ = some (.int .i64 x.len) ∧ Below w.heap.size w (wr.alloc (Obj.cells #[Value.int IntKind.i64 x.off, Value.int IntKind.i64 x.len] 39)).drew :=
          ⟨by simp, by simp, hBa.drew⟩
        refine wp_region_plan [(true, 0), (false, 1), (true, 2), (true, 3), (true, 4), (true, 5), (true, 6), (true, 7), (true, 8), (true, 9), (true, 10), (true, 11), (true, 12), (true, 13), (false, 14), (true, 15), (true, 16), (true, 17)] (fun w' => w'.cell? ⟨wr.heap.size, 0, none⟩ = some (.int .i64 x.off) ∧ w'.cell? ⟨wr.heap.size, 1, none⟩ = some (.int .i64 x.len) ∧ Below w.heap.size w w') [] (by kernel_rfl) (by kernel_rfl) (by kernel_rfl) rfl (by intro _ d _ _ _ h; cases d <;> exact h) ?_
        iterate 1 ((refine plan_yes (v := ?_) hS rfl (by rfl) (fun W hW => ?_) ?_; rotate_left; focus ((try dsimp only at hW); go_simp; (try with_reducible rfl); done)); (try simp only [Act.put, List.setIfInBounds_toArray, List.set_cons_zero, List.set_cons_succ]))
        refine plan_act rfl (fun K hK => ?_)
        go_wp2_with (go_at_call 47; refine (proper_no x _ hp).mono ?_; rintro e w1 ⟨rfl, hb1⟩)
        have hS1 : w1.cell? ⟨wr.heap.size, 0, none⟩ = some (.int .i64 x.off) ∧ w1.cell? ⟨wr.heap.size, 1, none⟩ = some (.int .i64 x.len) ∧ Below w.heap.size w w1 :=
          ⟨cell_on hS.1 hb1, cell_on hS.2.1 hb1, below_on hS.2.2 (Nat.le_refl _) hb1⟩
        refine hK _ _ (fun _ => hS1) ?_
        clear hK K hb1 hS
        (try simp only [Act.put, List.setIfInBounds_toArray, List.set_cons_zero, List.set_cons_succ])
        iterate 2 ((refine plan_yes (v := ?_) hS1 rfl (by rfl) (fun W hW => ?_) ?_; rotate_left; focus ((try dsimp only at hW); go_simp; (try with_reducible rfl); done)); (try simp only [Act.put, List.setIfInBounds_toArray, List.set_cons_zero, List.set_cons_succ]))
        iterate 10 (refine plan_no hS1 rfl (by rfl) ?_; (try simp only [Act.put, List.setIfInBounds_toArray, List.set_cons_zero, List.set_cons_succ]))
        refine plan_skip rfl (by rfl) hS1 ?_
        (try simp only [Act.put, List.setIfInBounds_toArray, List.set_cons_zero, List.set_cons_succ])
        iterate 2 (refine plan_no hS1 rfl (by rfl) ?_; (try simp only [Act.put, List.setIfInBounds_toArray, List.set_cons_zero, List.set_cons_succ]))
        iterate 1 ((refine plan_yes (v := ?_) hS1 rfl (by rfl) (fun W hW => ?_) ?_; rotate_left; focus ((try dsimp only at hW); go_simp; (try with_reducible rfl); done)); (try simp only [Act.put, List.setIfInBounds_toArray, List.set_cons_zero, List.set_cons_succ]))
        refine plan_done ?_
        go_wp2
        go_ret
        exact ⟨ret_bool (Ex.vldB_no (i := k) (by rw [HL.out]; exact hlt) (fun h => hp (by rw [← HX.out]; exact h.1))).symm, hS1.2.2⟩
    · obtain rfl : k = n := by omega
      go_wp2
      go_ret
      exact ⟨ret_bool (Ex.vldB_yes (by rw [HL.out]; exact hok.out)).symm, hB⟩
end Go.Proofs.Ytejogdielfgeoaa
/- Extents as cells. -/
namespace Go.Proofs.Ytejogdielfgeoaa
open Go.RowKit Go.Shelf
set_option linter.unusedVariables false

/-- Extents as cells. -/
def exCells (xs : List Ext) : List Value := xs.flatMap fun e => [.int .i64 e.off, .int .i64 e.len]
theorem exCells_len (xs : List Ext) : (exCells xs).length = xs.length * 2 := by
  induction xs with
  | nil => rfl
  | cons x xs ih => simp [exCells] at ih ⊢; omega
theorem exCells_snoc (xs : List Ext) (x : Ext) : exCells (xs ++ [x]) = exCells xs ++ [.int .i64 x.off, .int .i64 x.len] := by simp [exCells]
theorem exCells_app (xs ys : List Ext) : exCells (xs ++ ys) = exCells xs ++ exCells ys := by simp [exCells]
theorem exCells_get : ∀ (xs : List Ext) (i : Nat), i < xs.length → (exCells xs)[i * 2]? = some (.int .i64 (Ex.get xs i).off) ∧ (exCells xs)[i * 2 + 1]? = some (.int .i64 (Ex.get xs i).len)
  | [], i, h => by simp at h
  | x :: xs, 0, _ => by simp [exCells, Ex.get]
  | x :: xs, i + 1, h => by
    have := exCells_get xs i (by simpa using h)
    have e1 : (i + 1) * 2 = i * 2 + 1 + 1 := by omega
    rw [e1]
    simpa [exCells, Ex.get] using this

/-- A row of the call's own that holds extents reads as their list. -/
theorem Exts.of_own {w : World} {base n c : Nat} {A : Option Addr} {xs : List Ext} (h : w.ownsRow base 39 2 (.slice A n c) n (exCells xs)) : Exts w w.heap.size A n c xs := by
  have hl : xs.length = n := by have := h.1; rw [exCells_len] at this; omega
  rcases h.2 with ⟨hv, hn⟩ | ⟨g, cap, cur, hv, hb, hg, hnc, hcm, hsz, htk⟩
  · cases hv
    exact ⟨hl, by omega, by omega, fun h => by omega⟩
  · cases hv
    refine ⟨hl, hnc, hcm, fun hn => ⟨g, 0, rfl, h.lt g rfl |>.2, fun i hi => ?_⟩⟩
    have hc := exCells_get xs i (by omega)
    have e1 : (⟨g, 0, none⟩ : Addr).add (i * 2) = ⟨g, i * 2, none⟩ := by unfold Addr.add; split <;> simp_all
    have e2 : (⟨g, 0, none⟩ : Addr).add (i * 2 + 1) = ⟨g, i * 2 + 1, none⟩ := by unfold Addr.add; split <;> simp_all
    have h1 := h.cells (g := g) rfl _ _ hc.1
    have h2 := h.cells (g := g) rfl _ _ hc.2
    rw [e1] at h1
    rw [e2] at h2
    simpa using ⟨h1, h2⟩
theorem own_slice {w : World} {base : Nat} {e : TypeId} {size n : Nat} {v : Value} {xs : List Value} (h : w.ownsRow base e size v n xs) : ∃ A c, v = .slice A n c := by
  rcases h.2 with ⟨rfl, rfl⟩ | ⟨g, cap, cur, rfl, _⟩
  · exact ⟨_, _, rfl⟩
  · exact ⟨_, _, rfl⟩

theorem ext_info : (Try.prog.info? 39).map (fun i => (i.zero, i.size, i.bytes)) = some (some (.agg #[.int .i64 0, .int .i64 0]), 2, 16) := by kernel_rfl

end Go.Proofs.Ytejogdielfgeoaa
/- Contracts of slices.Grow on nil, slices.Concat and slices.Clone at lists of extents. -/
namespace Go.Proofs.Ytejogdielfgeoaa
open Go.RowKit Go.Shelf
set_option linter.unusedVariables false

theorem Exts.reads {w : World} {B n c : Nat} {A : Option Addr} {xs : List Ext} (h : Exts w B A n c xs) : Reads w B 2 A n (exCells xs) :=
  ⟨by rw [exCells_len, h.len], fun hn => by
    obtain ⟨b, off, e, hB, hc⟩ := h.cells hn
    refine ⟨_, e, hB, fun j u hu => ?_⟩
    have hj : j < n * 2 := by
      have := (List.getElem?_eq_some_iff.1 hu).1
      rw [exCells_len, h.len] at this
      omega
    have e1 : ∀ i, (⟨b, off, none⟩ : Addr).add i = ⟨b, off + i, none⟩ := fun i => by unfold Addr.add; split <;> simp_all
    rw [e1]
    have hd := exCells_get xs (j / 2) (by have := h.len; omega)
    have hcc := hc (j / 2) (by omega)
    rcases Nat.mod_two_eq_zero_or_one j with h0 | h1
    · have e2 : j / 2 * 2 = j := by omega
      rw [e2] at hd hcc
      rw [hcc.1, ← hu, hd.1]
    · have e2 : j / 2 * 2 + 1 = j := by omega
      rw [Nat.add_assoc, e2] at hcc
      rw [e2] at hd
      rw [hcc.2, ← hu, hd.2]⟩
theorem exCells_one (xs : List Ext) : ∀ u ∈ exCells xs, u.oneCell' = true := by
  intro u hu
  obtain ⟨x, _, hx⟩ := List.mem_flatMap.1 hu
  simp at hx
  rcases hx with rfl | rfl <;> rfl

def growPost (w : World) (e : Ending) (w' : World) : Prop := ∃ A c, e = .returned (.slice A 0 c) ∧ w'.ownsRow w.heap.size 39 2 (.slice A 0 c) 0 [] ∧ Below w.heap.size w w'

set_option maxRecDepth 100000 in
set_option maxHeartbeats 1000000 in
theorem grow_any (n : Nat) (w : World) (hn : n ≤ 1000000) : Calls Try.prog 56 #[.slice none 0 0, .int .i64 n] w (growPost w) := by
  obtain ⟨i0, hi, hz0, hz1, hz2⟩ := info_parts ext_info
  by_cases h0 : n = 0
  · subst h0
    go_enter Try.func56, Try.ntmps56
    go_wp2
    go_ret
    exact ⟨none, 0, rfl, World.ownsRow_nil _ _ _ _, Below.refl _ _⟩
  · have hp : (0 : Int) < n := by omega
    have hr := fun W : World => Lib.run_append_nil_zeros (P := Try.prog) W 29 3 29 39 i0 _ .i64 .i64 Try.underlying29 Try.underlying3 hi hz0 n (by omega) (by rw [hz1]; omega) (by omega) (by rw [hz2]; omega)
    have HR := Lib.hid hr
    clear hr h0
    go_enter Try.func56, Try.ntmps56
    go_wp2_with (at_builtin; go_must (refine Lib.wpList_append_run _ rfl _ _ _ _ rfl _ _ rfl rfl _ _ (HR.out _) ?_))
    go_ret
    refine ⟨_, _, rfl, World.ownsRow_made w.drew _ _ (Nat.le_refl _) (grownCap_le_maxLen w n 0 _ (by simp only [maxLen]; omega)) ?_, ((Below.refl _ _).drew).alloc (Nat.le_refl _) _⟩
    have hge := grownCap_ge w n 0 39
    rw [Array.size_append, size_zeroCells, size_zeroCells]
    simp
    omega

def catTo (xs : Nat → List Ext) : Nat → List Ext
  | 0 => []
  | k + 1 => catTo xs k ++ xs k
def sumTo (n : Nat → Nat) : Nat → Nat
  | 0 => 0
  | k + 1 => sumTo n k + n k
theorem sumTo_mono (n : Nat → Nat) : ∀ d k, sumTo n k ≤ sumTo n (k + d)
  | 0, _ => Nat.le_refl _
  | d + 1, k => Nat.le_trans (sumTo_mono n d k) (by rw [← Nat.add_assoc]; exact Nat.le_add_right _ _)
theorem sumTo_le (n : Nat → Nat) {j k : Nat} (h : j ≤ k) : sumTo n j ≤ sumTo n k := by
  obtain ⟨d, rfl⟩ := Nat.le.dest h
  exact sumTo_mono n d j

def catPost (xs : Nat → List Ext) (n : Nat → Nat) (m : Nat) (w : World) (e : Ending) (w' : World) : Prop :=
  ∃ A c, e = .returned (.slice A (sumTo n m) c) ∧ w'.ownsRow w.heap.size 39 2 (.slice A (sumTo n m) c) (sumTo n m) (exCells (catTo xs m)) ∧ Below w.heap.size w w'

set_option maxRecDepth 100000 in
set_option maxHeartbeats 2000000 in
theorem concat_any (G m : Nat) (A : Nat → Option Addr) (n c : Nat → Nat) (xs : Nat → List Ext) (w : World) (hG : G < w.heap.size) (hm : m ≤ 100) (hs : sumTo n m ≤ 1000000)
    (hc : ∀ k, k < m → w.cell? ⟨G, k, none⟩ = some (.slice (A k) (n k) (c k))) (hE : ∀ k, k < m → Exts w w.heap.size (A k) (n k) (c k) (xs k)) :
    Calls Try.prog 49 #[.slice (some ⟨G, 0, none⟩) m m] w (catPost xs n m w) := by
  obtain ⟨i0, hi, hz0, hz1, hz2⟩ := info_parts ext_info
  have HE := Lib.hid (And.intro hc hE)
  clear hc hE
  go_enter Try.func49, Try.ntmps49
  go_wp2
  go_loop [3, 11] (fun s i => ∃ k : Nat, k ≤ m ∧ i = .int .i64 (k : Int) ∧ s = .int .i64 (sumTo n k : Nat)) (fun _ i => m - (intOf i).toNat)
  case atStart => exact ⟨0, by omega, rfl, rfl⟩
  case round =>
    obtain ⟨k, hk, rfl, rfl⟩ := hrel
    have hsk := sumTo_le n hk
    by_cases hlt : k < m
    · have hck := HE.out.1 k hlt
      have hsn : sumTo n (k + 1) = sumTo n k + n k := rfl
      have hs1 := sumTo_le n (show k + 1 ≤ m from hlt)
      rw [hsn] at hs1
      have HS := Lib.hid hsn
      clear hsn
      go_wp2
      go_round
      case rel => exact ⟨k + 1, by omega, by go_num, by rw [HS.out]; go_num⟩
      case measure => simp [intOf]; omega
    · obtain rfl : k = m := by omega
      go_wp2_with fail
      refine (grow_any _ _ hs).mono ?_
      rintro e w1 ⟨A1, c1, rfl, hown, hb1⟩
      have HW := Lib.hid (And.intro hown hb1)
      clear hown hb1
      go_wp2
      go_loopw [6, 27] (fun v i wr => ∃ j : Nat, j ≤ k ∧ i = .int .i64 (j : Int) ∧ Hid (wr.ownsRow w.heap.size 39 2 v (sumTo n j) (exCells (catTo xs j)) ∧ Below w.heap.size w wr)) (fun _ i _ => k - (intOf i).toNat)
      case atStart => exact ⟨0, by omega, rfl, HW.out⟩
      case round =>
        obtain ⟨j, hj, rfl, hI⟩ := hrel
        have hsj := sumTo_le n hj
        by_cases hlt2 : j < k
        · have hck := (hI.out.2.cell (p := ⟨G, j, none⟩) hG).trans (HE.out.1 j hlt2)
          have hEj := ((HE.out.2 j hlt2).below hI.out.2).reads
          have hsn : sumTo n (j + 1) = sumTo n j + n j := rfl
          have hs1 := sumTo_le n (show j + 1 ≤ k from hlt2)
          rw [hsn] at hs1
          have hcn : exCells (catTo xs (j + 1)) = exCells (catTo xs j) ++ exCells (xs j) := exCells_app _ _
          have HS := Lib.hid (And.intro hsn (And.intro hcn hEj))
          have hsz := hI.out.2.size
          clear hsn hcn hEj
          go_wp2_with (at_builtin; go_must (refine wpList_append_any _ rfl _ _ _ rfl w.heap.size 39 i0 _ 2 16 Try.underlying29 hi hz0 hz1 hz2 rfl (by omega) _ (sumTo n j) _ rfl hI.out.1 w.heap.size (A j) (n j) _ (exCells (xs j)) rfl HS.out.2.2 (exCells_one _) (by simp only [maxLen]; omega) (by omega) (by omega) ?_); intro v1 w4 hown4 hg4 hat4)
          go_roundw
          case rel => exact ⟨j + 1, by omega, by go_num, by rw [HS.out.1, HS.out.2.1]; exact hown4, hI.out.2.grown hg4 hsz (fun q hq => (hI.out.1.lt q hq).1)⟩
          case measure => simp [intOf]; omega
        · obtain rfl : j = k := by omega
          obtain ⟨A2, c2, rfl⟩ := own_slice hI.out.1
          go_wp2
          go_ret
          exact ⟨A2, c2, rfl, hI.out.1, hI.out.2⟩
end Go.Proofs.Ytejogdielfgeoaa
/- Contracts of SameExtents, Total and Contains of the reference, and of Total. -/
namespace Go.Proofs.Ytejogdielfgeoaa
open Go.RowKit Go.Shelf
set_option linter.unusedVariables false

theorem get_ext {xs ys : List Ext} (hl : xs.length = ys.length) (h : ∀ i, i < xs.length → Ex.get xs i = Ex.get ys i) : xs = ys := by
  apply List.ext_getElem hl
  intro i h1 h2
  have := h i h1
  simpa [Ex.get, h1, h2] using this

def sameB (xs ys : List Ext) : Bool := decide (xs = ys)
theorem same_yes {xs ys : List Ext} (hl : xs.length = ys.length) (h : ∀ i, i < xs.length → Ex.get xs i = Ex.get ys i) : sameB xs ys = true := decide_eq_true (get_ext hl h)
theorem same_no {xs ys : List Ext} {i : Nat} (h : Ex.get xs i ≠ Ex.get ys i) : sameB xs ys = false := decide_eq_false (fun e => h (by rw [e]))
theorem same_len {xs ys : List Ext} (h : xs.length ≠ ys.length) : sameB xs ys = false := decide_eq_false (fun e => h (by rw [e]))

set_option maxRecDepth 100000 in
set_option maxHeartbeats 1000000 in
theorem same_any (A B : Option Addr) (n c m d : Nat) (xs ys : List Ext) (w : World) (hE : Exts w w.heap.size A n c xs) (hF : Exts w w.heap.size B m d ys) :
    Calls Try.prog 23 #[.slice A n c, .slice B m d] w fun e w' => e = .returned (.bool (sameB xs ys)) ∧ Below w.heap.size w w' := by
  have hl1 := hE.len
  have hl2 := hF.len
  have hn : n ≤ 9223372036854775807 := Nat.le_trans hE.cap hE.max
  have hm : m ≤ 9223372036854775807 := Nat.le_trans hF.cap hF.max
  have HE := Lib.hid hE
  have HF := Lib.hid hF
  have HL := Lib.hid (And.intro hl1 hl2)
  clear hE hF hl1 hl2
  by_cases hnm : n = m
  · subst hnm
    go_enter Try.func23, Try.ntmps23
    go_wp2
    go_loopw [5] (fun i wr => ∃ k : Nat, k ≤ n ∧ i = .int .i64 (k : Int) ∧ Hid (∀ j, j < k → Ex.get xs j = Ex.get ys j) ∧ Below w.heap.size w wr) (fun i _ => n - (intOf i).toNat)
    case atStart => exact ⟨0, by omega, rfl, fun i hi => by omega, Below.refl _ _⟩
    case round =>
      obtain ⟨k, hk, rfl, hok, hB⟩ := hrel
      by_cases hlt : k < n
      · obtain ⟨b, off, rfl, hb, hc⟩ := (HE.out.below hB).cells (by omega)
        obtain ⟨b', off', rfl, hb', hc'⟩ := (HF.out.below hB).cells (by omega)
        obtain ⟨hc1, hc2⟩ := hc k hlt
        obtain ⟨hd1, hd2⟩ := hc' k hlt
        obtain ⟨x, hx⟩ : ∃ x, Ex.get xs k = x := ⟨_, rfl⟩
        obtain ⟨y, hy⟩ : ∃ y, Ex.get ys k = y := ⟨_, rfl⟩
        rw [hx] at hc1 hc2
        rw [hy] at hd1 hd2
        have HX := Lib.hid (And.intro hx hy)
        clear hx hy hc hc'
        have hk0 : (0 : Int) ≤ k := by omega
        have hkn : (k : Int) < n := by omega
        go_wp2
        have hS : wr.drew.cell? ⟨b, off + k * 2, none⟩ = some (.int .i64 x.off) ∧ wr.drew.cell? ⟨b, off + k * 2 + 1, none⟩ = some (.int .i64 x.len) ∧ wr.drew.cell? ⟨b', off' + k * 2, none⟩ = some (.int .i64 y.off) ∧ wr.drew.cell? ⟨b', off' + k * 2 + 1, none⟩ = some (.int .i64 y.len) ∧ Below w.heap.size w wr.drew := ⟨hc1, hc2, hd1, hd2, hB.drew⟩
        by_cases he1 : x.off = y.off
        · by_cases he2 : x.len = y.len
          · have hq1 : (x.off == y.off) = true := by rw [he1]; exact beq_self_eq_true _
            have hq2 : (x.len == y.len) = true := by rw [he2]; exact beq_self_eq_true _
            have HQ := Lib.hid (And.intro he1 he2)
            clear he1 he2
            refine wp_region_plan [(true, 0), (true, 1), (true, 2), (true, 3), (true, 4), (true, 5), (true, 6), (true, 7), (true, 8)] (fun w' => w'.cell? ⟨b, off + k * 2, none⟩ = some (.int .i64 x.off) ∧ w'.cell? ⟨b, off + k * 2 + 1, none⟩ = some (.int .i64 x.len) ∧ w'.cell? ⟨b', off' + k * 2, none⟩ = some (.int .i64 y.off) ∧ w'.cell? ⟨b', off' + k * 2 + 1, none⟩ = some (.int .i64 y.len) ∧ Below w.heap.size w w') [] (by kernel_rfl) (by kernel_rfl) (by kernel_rfl) rfl (by intro _ d _ _ _ h; cases d <;> exact h) ?_
            iterate 9 ((refine plan_yes (v := ?_) hS rfl (by rfl) (fun W hW => ?_) ?_; rotate_left; focus ((try dsimp only at hW); go_simp; (try with_reducible rfl); done)); (try simp only [Act.put, List.setIfInBounds_toArray, List.set_cons_zero, List.set_cons_succ]))
            refine plan_done ?_
            go_wp2
            go_roundw
            case rel => exact ⟨k + 1, by omega, by go_num, fun j hj => by
              rcases Nat.lt_or_ge j k with h | h
              · exact hok.out j h
              · obtain rfl : j = k := by omega
                rw [HX.out.1, HX.out.2]
                cases x; cases y; exact (Ext.mk.injEq .. ▸ HQ.out), hS.2.2.2.2⟩
            case measure => simp [intOf]; omega
          · have hq1 : (x.off == y.off) = true := by rw [he1]; exact beq_self_eq_true _
            have hq2 : (x.len == y.len) = false := beq_eq_false_iff_ne.2 he2
            have HQ : Hid (x ≠ y) := fun e => he2 (by rw [e])
            clear he1 he2
            refine wp_region_plan [(true, 0), (true, 1), (true, 2), (true, 3), (true, 4), (true, 5), (true, 6), (true, 7), (true, 8)] (fun w' => w'.cell? ⟨b, off + k * 2, none⟩ = some (.int .i64 x.off) ∧ w'.cell? ⟨b, off + k * 2 + 1, none⟩ = some (.int .i64 x.len) ∧ w'.cell? ⟨b', off' + k * 2, none⟩ = some (.int .i64 y.off) ∧ w'.cell? ⟨b', off' + k * 2 + 1, none⟩ = some (.int .i64 y.len) ∧ Below w.heap.size w w') [] (by kernel_rfl) (by kernel_rfl) (by kernel_rfl) rfl (by intro _ d _ _ _ h; cases d <;> exact h) ?_
            iterate 9 ((refine plan_yes (v := ?_) hS rfl (by rfl) (fun W hW => ?_) ?_; rotate_left; focus ((try dsimp only at hW); go_simp; (try with_reducible rfl); done)); (try simp only [Act.put, List.setIfInBounds_toArray, List.set_cons_zero, List.set_cons_succ]))
            refine plan_done ?_
            go_wp2
            go_ret
            exact ⟨ret_bool (same_no (i := k) (by rw [HX.out.1, HX.out.2]; exact HQ.out)).symm, hS.2.2.2.2⟩
        · have hq1 : (x.off == y.off) = false := beq_eq_false_iff_ne.2 he1
          have HQ : Hid (x ≠ y) := fun e => he1 (by rw [e])
          clear he1
          refine wp_region_plan [(true, 0), (true, 1), (true, 2), (true, 3), (true, 4), (true, 5), (true, 6), (true, 7), (true, 8)] (fun w' => w'.cell? ⟨b, off + k * 2, none⟩ = some (.int .i64 x.off) ∧ w'.cell? ⟨b, off + k * 2 + 1, none⟩ = some (.int .i64 x.len) ∧ w'.cell? ⟨b', off' + k * 2, none⟩ = some (.int .i64 y.off) ∧ w'.cell? ⟨b', off' + k * 2 + 1, none⟩ = some (.int .i64 y.len) ∧ Below w.heap.size w w') [] (by kernel_rfl) (by kernel_rfl) (by kernel_rfl) rfl (by intro _ d _ _ _ h; cases d <;> exact h) ?_
          iterate 9 ((refine plan_yes (v := ?_) hS rfl (by rfl) (fun W hW => ?_) ?_; rotate_left; focus ((try dsimp only at hW); go_simp; (try with_reducible rfl); done)); (try simp only [Act.put, List.setIfInBounds_toArray, List.set_cons_zero, List.set_cons_succ]))
          refine plan_done ?_
          go_wp2
          go_ret
          exact ⟨ret_bool (same_no (i := k) (by rw [HX.out.1, HX.out.2]; exact HQ.out)).symm, hS.2.2.2.2⟩
      · obtain rfl : k = n := by omega
        go_wp2
        go_ret
        exact ⟨ret_bool (same_yes (by rw [HL.out.1, HL.out.2]) (fun i hi => hok.out i (by rw [HL.out.1] at hi; exact hi))).symm, hB⟩
  · have hne : ((n : Int) != (m : Int)) = true := by rw [bne_iff_ne]; omega
    have HQ : Hid (xs.length ≠ ys.length) := by rw [HL.out.1, HL.out.2]; exact hnm
    clear hnm
    go_enter Try.func23, Try.ntmps23
    go_wp2
    go_ret
    exact ⟨ret_bool (same_len HQ.out).symm, Below.refl _ _⟩

/-- The sum of the lengths of the first k, as Go adds them. -/
def totTo (xs : List Ext) (k : Nat) : Int := (xs.take k).foldl (fun s e => wrap64 (s + e.len)) 0
def totF (xs : List Ext) : Int := totTo xs xs.length
theorem totTo_succ {xs : List Ext} {k : Nat} (h : k < xs.length) : totTo xs (k + 1) = wrap64 (totTo xs k + (Ex.get xs k).len) := by
  unfold totTo
  rw [List.take_succ_eq_append_getElem h, List.foldl_append]
  simp [Ex.get, h]

/-- Does the extent hold the offset, as Go reckons it? -/
def hit (x : Ext) (o : Int) : Prop := x.off ≤ o ∧ IntKind.i64.wrap (o - x.off) < x.len
instance (x : Ext) (o : Int) : Decidable (hit x o) := by unfold hit; exact inferInstance
def hasB (xs : List Ext) (o : Int) : Bool := decide (∃ i, i < xs.length ∧ hit (Ex.get xs i) o)
theorem has_yes {xs : List Ext} {o : Int} {i : Nat} (hi : i < xs.length) (h : hit (Ex.get xs i) o) : hasB xs o = true := decide_eq_true ⟨i, hi, h⟩
theorem has_no {xs : List Ext} {o : Int} (h : ∀ i, i < xs.length → ¬ hit (Ex.get xs i) o) : hasB xs o = false := decide_eq_false (fun ⟨i, hi, hh⟩ => h i hi hh)

end Go.Proofs.Ytejogdielfgeoaa
/- Contracts of Contains, and of after, which searches by halves. -/
namespace Go.Proofs.Ytejogdielfgeoaa
open Go.RowKit Go.Shelf
set_option linter.unusedVariables false

/-- What IndexFunc comes to: the first place that holds the offset, or -1. -/
def idxPost (xs : List Ext) (o : Int) (w : World) (e : Ending) (w' : World) : Prop :=
  ∃ r : Int, e = .returned (.int .i64 r) ∧ (0 ≤ r ∧ hasB xs o = true ∨ r = -1 ∧ hasB xs o = false) ∧ Below w.heap.size w w'

/-- How many of the extents end at or before an offset, from the beginning on. -/
def Aft (xs : List Ext) (o : Int) (i : Nat) : Prop := i ≤ xs.length ∧ (∀ k, k < i → (Ex.get xs k).end_ ≤ o) ∧ ∀ k, i ≤ k → k < xs.length → o < (Ex.get xs k).end_
theorem vld_mono {xs : List Ext} (h : Ex.vld xs) : ∀ d k, k + d < xs.length → (Ex.get xs k).end_ ≤ (Ex.get xs (k + d)).end_
  | 0, _, _ => Int.le_refl _
  | d + 1, k, hd => by
    have h1 := vld_mono h d k (by omega)
    have h2 := (h (k + d + 1) (by omega)).2 (by omega)
    have h3 := (h (k + d + 1) (by omega)).1
    rw [show k + d + 1 - 1 = k + d from rfl] at h2
    unfold Ext.prop at h3
    unfold Ext.end_ at *
    rw [show k + (d + 1) = k + d + 1 from rfl]
    omega
theorem vld_le {xs : List Ext} (h : Ex.vld xs) {j k : Nat} (hj : j ≤ k) (hk : k < xs.length) : (Ex.get xs j).end_ ≤ (Ex.get xs k).end_ := by
  obtain ⟨d, rfl⟩ := Nat.le.dest hj
  exact vld_mono h d j hk

set_option maxRecDepth 100000 in
set_option maxHeartbeats 1000000 in
theorem acl_any (A : Option Addr) (n c : Nat) (xs : List Ext) (o : Int) (k B C : Nat) (w : World) (hE : Exts w w.heap.size A n c xs) (hv : Hid (Ex.vld xs)) (hk : k < n)
    (hB0 : w.cell? ⟨B, 0, none⟩ = some (.slice A n c)) (hC0 : w.cell? ⟨C, 0, none⟩ = some (.int .i64 o)) :
    Calls Try.prog 55 #[.int .i64 k, .pointer (some ⟨B, 0, none⟩), .pointer (some ⟨C, 0, none⟩)] w fun e w' => e = .returned (.bool (decide (o < (Ex.get xs k).end_))) ∧ Below w.heap.size w w' := by
  have hl1 := hE.len
  obtain ⟨b, off, rfl, hb, hc⟩ := hE.cells (by omega)
  obtain ⟨hc1, hc2⟩ := hc k hk
  have hx := (hv.out k (by omega)).1
  obtain ⟨x, hxx⟩ : ∃ x, Ex.get xs k = x := ⟨_, rfl⟩
  rw [hxx] at hc1 hc2 hx ⊢
  have hn : n ≤ 9223372036854775807 := Nat.le_trans hE.cap hE.max
  have HX := Lib.hid hx
  clear hE hc hxx hl1 hx
  go_enter Try.func55, Try.ntmps55
  have hk0 : (0 : Int) ≤ k := by omega
  have hkn : (k : Int) < n := by omega
  go_wp2
  have hS : w.drew.cell? ⟨B, 0, none⟩ = some (.slice (some ⟨b, off, none⟩) n c) ∧ w.drew.cell? ⟨C, 0, none⟩ = some (.int .i64 o) ∧ w.drew.cell? ⟨b, off + k * 2, none⟩ = some (.int .i64 x.off) ∧ w.drew.cell? ⟨b, off + k * 2 + 1, none⟩ = some (.int .i64 x.len) ∧ Below w.heap.size w w.drew := ⟨hB0, hC0, hc1, hc2, (Below.refl _ w).drew⟩
  refine wp_region_plan [(true, 0), (true, 1), (true, 2), (true, 3), (true, 5), (false, 4), (true, 6), (true, 7)] (fun w' => w'.cell? ⟨B, 0, none⟩ = some (.slice (some ⟨b, off, none⟩) n c) ∧ w'.cell? ⟨C, 0, none⟩ = some (.int .i64 o) ∧ w'.cell? ⟨b, off + k * 2, none⟩ = some (.int .i64 x.off) ∧ w'.cell? ⟨b, off + k * 2 + 1, none⟩ = some (.int .i64 x.len) ∧ Below w.heap.size w w') [] (by kernel_rfl) (by kernel_rfl) (by kernel_rfl) rfl (by intro _ d _ _ _ h; cases d <;> exact h) ?_
  iterate 5 ((refine plan_yes (v := ?_) hS rfl (by rfl) (fun W hW => ?_) ?_; rotate_left; focus ((try dsimp only at hW); go_simp; (try with_reducible rfl); done)); (try simp only [Act.put, List.setIfInBounds_toArray, List.set_cons_zero, List.set_cons_succ]))
  refine plan_act rfl (fun K hK => ?_)
  go_wp2_with (go_at_call 45; refine (end_prop x _ HX.out).mono ?_; rintro e w1 ⟨rfl, hb1⟩)
  have hS1 : w1.cell? ⟨B, 0, none⟩ = some (.slice (some ⟨b, off, none⟩) n c) ∧ w1.cell? ⟨C, 0, none⟩ = some (.int .i64 o) ∧ w1.cell? ⟨b, off + k * 2, none⟩ = some (.int .i64 x.off) ∧ w1.cell? ⟨b, off + k * 2 + 1, none⟩ = some (.int .i64 x.len) ∧ Below w.heap.size w w1 := ⟨cell_on hS.1 hb1, cell_on hS.2.1 hb1, cell_on hS.2.2.1 hb1, cell_on hS.2.2.2.1 hb1, below_on hS.2.2.2.2 (Nat.le_refl _) hb1⟩
  refine hK _ _ (fun _ => hS1) ?_
  clear hS
  clear hK K
  (try simp only [Act.put, List.setIfInBounds_toArray, List.set_cons_zero, List.set_cons_succ])
  iterate 2 ((refine plan_yes (v := ?_) hS1 rfl (by rfl) (fun W hW => ?_) ?_; rotate_left; focus ((try dsimp only at hW); go_simp; (try with_reducible rfl); done)); (try simp only [Act.put, List.setIfInBounds_toArray, List.set_cons_zero, List.set_cons_succ]))
  refine plan_done ?_
  go_wp2
  go_ret
  exact ⟨rfl, hS1.2.2.2.2⟩

theorem acl_yes (A : Option Addr) (n c : Nat) (xs : List Ext) (o : Int) (k B C : Nat) (w : World) (hE : Exts w w.heap.size A n c xs) (hv : Hid (Ex.vld xs)) (hk : k < n) (h : o < (Ex.get xs k).end_)
    (hB0 : w.cell? ⟨B, 0, none⟩ = some (.slice A n c)) (hC0 : w.cell? ⟨C, 0, none⟩ = some (.int .i64 o)) :
    Calls Try.prog 55 #[.int .i64 k, .pointer (some ⟨B, 0, none⟩), .pointer (some ⟨C, 0, none⟩)] w fun e w' => e = .returned (.bool true) ∧ Below w.heap.size w w' := by
  have := acl_any A n c xs o k B C w hE hv hk hB0 hC0
  rwa [decide_eq_true h] at this
theorem acl_no (A : Option Addr) (n c : Nat) (xs : List Ext) (o : Int) (k B C : Nat) (w : World) (hE : Exts w w.heap.size A n c xs) (hv : Hid (Ex.vld xs)) (hk : k < n) (h : ¬ o < (Ex.get xs k).end_)
    (hB0 : w.cell? ⟨B, 0, none⟩ = some (.slice A n c)) (hC0 : w.cell? ⟨C, 0, none⟩ = some (.int .i64 o)) :
    Calls Try.prog 55 #[.int .i64 k, .pointer (some ⟨B, 0, none⟩), .pointer (some ⟨C, 0, none⟩)] w fun e w' => e = .returned (.bool false) ∧ Below w.heap.size w w' := by
  have := acl_any A n c xs o k B C w hE hv hk hB0 hC0
  rwa [decide_eq_false h] at this
theorem mid_eq (p q : Nat) (h1 : p ≤ 9223372036854775807) (h2 : q ≤ 9223372036854775807) : wrap64 (IntKind.u64.wrap (wrap64 ((p : Int) + q)) / 2) = (((p + q) / 2 : Nat) : Int) := by
  rw [IntKind.wrap_u64]
  unfold wrap64
  omega

set_option maxRecDepth 100000 in
set_option maxHeartbeats 1000000 in
theorem search_any (A : Option Addr) (n c : Nat) (xs : List Ext) (o : Int) (B C : Nat) (w : World) (hE : Exts w w.heap.size A n c xs) (hv : Hid (Ex.vld xs))
    (hB0 : w.cell? ⟨B, 0, none⟩ = some (.slice A n c)) (hC0 : w.cell? ⟨C, 0, none⟩ = some (.int .i64 o)) :
    Calls Try.prog 54 #[.int .i64 n, .func (.func 55) #[] #[.pointer (some ⟨B, 0, none⟩), .pointer (some ⟨C, 0, none⟩)]] w fun e w' => (∃ i : Nat, e = .returned (.int .i64 i) ∧ Aft xs o i) ∧ Below w.heap.size w w' := by
  have hl1 := hE.len
  have hn : n ≤ 9223372036854775807 := Nat.le_trans hE.cap hE.max
  have hlB := World.block_lt_of_cell? w _ hB0
  have hlC := World.block_lt_of_cell? w _ hC0
  have HE := Lib.hid hE
  have HL := Lib.hid hl1
  clear hE hl1
  go_enter Try.func54, Try.ntmps54
  go_wp2
  go_loopw [5, 6] (fun i j wr => ∃ p q : Nat, p ≤ q ∧ q ≤ n ∧ i = .int .i64 (p : Int) ∧ j = .int .i64 (q : Int) ∧ Hid ((∀ k, k < p → (Ex.get xs k).end_ ≤ o) ∧ ∀ k, q ≤ k → k < n → o < (Ex.get xs k).end_) ∧ Below w.heap.size w wr) (fun i j _ => (intOf j).toNat - (intOf i).toNat)
  case atStart => exact ⟨0, n, by omega, by omega, rfl, rfl, ⟨fun k hk => by omega, fun k h1 h2 => by omega⟩, Below.refl _ _⟩
  case round =>
    obtain ⟨p, q, hpq, hqn, rfl, rfl, hI, hB⟩ := hrel
    have hBc : wr.cell? ⟨B, 0, none⟩ = some (.slice A n c) := (hB.cell (p := ⟨B, 0, none⟩) hlB).trans hB0
    have hCc : wr.cell? ⟨C, 0, none⟩ = some (.int .i64 o) := (hB.cell (p := ⟨C, 0, none⟩) hlC).trans hC0
    by_cases hlt : p < q
    · have hm := mid_eq p q (by omega) (by omega)
      obtain ⟨h, hh⟩ : ∃ h, (p + q) / 2 = h := ⟨_, rfl⟩
      rw [hh] at hm
      have h1 : p ≤ h := by omega
      have h2 : h < q := by omega
      have HM := Lib.hid hm
      clear hm hh
      go_wp2_with fail
      rw [HM.out]
      have hvh := hv.out
      by_cases ht : o < (Ex.get xs h).end_
      · refine (acl_yes A n c xs o h B C wr (HE.out.below hB |>.more hB.size) hv (by omega) ht hBc hCc).mono ?_
        rintro e w1 ⟨rfl, hb1⟩
        clear hvh
        have HT := Lib.hid ht
        clear ht
        go_wp2
        go_roundw
        case rel => exact ⟨p, h, h1, by omega, rfl, rfl, ⟨hI.out.1, fun k hk1 hk2 => by have := vld_le hv.out hk1 (by rw [HL.out]; exact hk2); have := HT.out; omega⟩, below_on hB (Nat.le_refl _) hb1⟩
        case measure => simp [intOf]; omega
      · refine (acl_no A n c xs o h B C wr (HE.out.below hB |>.more hB.size) hv (by omega) ht hBc hCc).mono ?_
        rintro e w1 ⟨rfl, hb1⟩
        clear hvh
        have HT := Lib.hid ht
        clear ht
        go_wp2
        go_roundw
        case rel => exact ⟨h + 1, q, by omega, hqn, by go_num, rfl, ⟨fun k hk => by have := vld_le hv.out (show k ≤ h by omega) (by rw [HL.out]; omega); have := HT.out; omega, hI.out.2⟩, below_on hB (Nat.le_refl _) hb1⟩
        case measure => simp [intOf]; omega
    · obtain rfl : p = q := by omega
      go_wp2
      go_ret
      exact ⟨⟨p, rfl, by rw [HL.out]; exact hqn, hI.out.1, fun k h1 h2 => hI.out.2 k h1 (by rw [HL.out] at h2; exact h2)⟩, hB⟩

set_option maxRecDepth 100000 in
set_option maxHeartbeats 1000000 in
theorem after_any (A : Option Addr) (n c : Nat) (xs : List Ext) (o : Int) (w : World) (hE : Exts w w.heap.size A n c xs) (hv : Hid (Ex.vld xs)) :
    Calls Try.prog 48 #[.slice A n c, .int .i64 o] w fun e w' => (∃ i : Nat, e = .returned (.int .i64 i) ∧ Aft xs o i) ∧ Below w.heap.size w w' := by
  have hEa : Exts ((w.alloc (.cells #[.slice A n c] 29)).alloc (.cells #[.int .i64 o] 3)) ((w.alloc (.cells #[.slice A n c] 29)).alloc (.cells #[.int .i64 o] 3)).heap.size A n c xs :=
    (hE.below (((Below.refl _ _).alloc (Nat.le_refl _) _).alloc (by simp) _)).more (by simp; omega)
  have HI := Lib.hid (search_any A n c xs o w.heap.size (w.heap.size + 1) _ hEa hv (by simp) (by simp))
  clear hE hEa
  go_enter Try.func48, Try.ntmps48
  go_wp2_with fail
  refine HI.out.mono ?_
  rintro e w1 ⟨⟨i, rfl, hi⟩, hb1⟩
  have HA := Lib.hid hi
  clear hi
  go_wp2
  go_ret
  exact ⟨⟨i, rfl, HA.out⟩, (((Below.refl _ _).alloc (Nat.le_refl _) _).alloc (by simp) _).trans (hb1.mono (by simp; omega))⟩
end Go.Proofs.Ytejogdielfgeoaa
/- Contracts of the reference's AllSizes, Class, Round. -/
namespace Go.Proofs.Ytejogdielfgeoaa
open Go.RowKit Go.Shelf

theorem int_info : (Try.prog.info? 3).map (fun i => (i.zero, i.size, i.bytes)) = some (some (.int .i64 0), 1, 8) := by kernel_rfl

/-- The first k sizes as cells. -/
def szCells (k : Nat) : List Value := (List.range k).map fun j => .int .i64 (Sz.sz j)
theorem szCells_len (k : Nat) : (szCells k).length = k := by simp [szCells]
theorem szCells_succ (k : Nat) : szCells (k + 1) = szCells k ++ [.int .i64 (Sz.sz k)] := by simp [szCells, List.range_succ]

theorem sz_mid : ∀ k, 8 ≤ k → k < 12 → (256 ≤ Sz.sz k ∧ Sz.sz k ≤ 2048) ∧ Sz.sz (k + 1) = 2 * Sz.sz k := by
  intro k h1 h2
  have : k = 8 ∨ k = 9 ∨ k = 10 ∨ k = 11 := by omega
  rcases this with rfl | rfl | rfl | rfl <;> decide
theorem sz_high (k : Nat) (h1 : 12 ≤ k) (h2 : k < 43) : (4096 ≤ Sz.sz k ∧ Sz.sz k ≤ 65536) ∧ Sz.sz (k + 1) = Sz.sz k + 2048 := by
  unfold Sz.sz
  rw [if_neg (by omega), if_neg (by omega), if_neg (by omega), if_neg (by omega)]
  omega

set_option maxRecDepth 100000 in
set_option maxHeartbeats 2000000 in
theorem all_any (w : World) : Calls Try.prog 43 #[] w fun e w' => ∃ g cap, e = .returned (.slice (some ⟨g, 0, none⟩) 43 cap) ∧ w'.ownsRow w.heap.size 3 1 (.slice (some ⟨g, 0, none⟩) 43 cap) 43 (szCells 43) ∧ Below w.heap.size w w' := by
  obtain ⟨i0, hi, hz0, hz1, hz2⟩ := info_parts int_info
  go_enter Try.func43, Try.ntmps43
  go_wp2
  go_loopw [1, 2] (fun v n wr => ∃ k : Nat, k ≤ 8 ∧ n = .int .i64 (16 * ((k : Int) + 1)) ∧ wr.ownsRow w.heap.size 3 1 v k (szCells k) ∧ Below w.heap.size w wr) (fun _ n _ => 200 - (intOf n).toNat)
  case atStart => exact ⟨0, by omega, rfl, World.ownsRow_nil _ _ _ _, Below.refl _ _⟩
  case round =>
    obtain ⟨k, hk, rfl, hown, hB⟩ := hrel
    by_cases hlt : k < 8
    · have hs : 16 * ((k : Int) + 1) = Sz.sz k := by unfold Sz.sz; rw [if_pos hlt]
      have H := Lib.hid hs
      clear hs
      go_wp2_with (at_builtin; go_must (refine wpList_append_any _ rfl _ _ _ rfl w.heap.size 3 i0 _ 1 8 Try.underlying80 hi hz0 hz1 hz2 rfl (by omega) _ k _ rfl (hown.alloc _) (wr.heap.size + 1) _ 1 1 [.int .i64 (16 * ((k : Int) + 1))] rfl (reads_new wr _ _ 1 1 rfl _ (by omega)) (by simp [Value.oneCell']) (by simp only [maxLen]; omega) (by omega) (by have := hB.size; simp; omega) ?_); intro v1 w1 hown1 hg1 hat1)
      go_roundw
      case rel => exact ⟨k + 1, by omega, by go_num, by rw [szCells_succ, ← H.out]; exact hown1, (hB.alloc hB.size _).grown hg1 (by have := hB.size; simp; omega) (fun j hj => (hown.lt j hj).1)⟩
      case measure => simp [intOf]; omega
    · obtain ⟨N, hN⟩ : ∃ N : Int, N = 16 * ((k : Int) + 1) := ⟨_, rfl⟩
      rw [← hN]
      obtain rfl : k = 8 := by omega
      have hN2 : 128 < N := by omega
      clear hk hN
      go_wp2
      go_loopw [1, 3] (fun v n wr => ∃ k : Nat, 8 ≤ k ∧ k ≤ 12 ∧ n = .int .i64 (Sz.sz k) ∧ wr.ownsRow w.heap.size 3 1 v k (szCells k) ∧ Below w.heap.size w wr) (fun _ n _ => 4096 - (intOf n).toNat)
      case atStart => exact ⟨8, by omega, by omega, rfl, hown, hB⟩
      case round =>
        clear hown hB
        obtain ⟨k, hk1, hk2, rfl, hown, hB⟩ := hrel
        by_cases hlt : k < 12
        · have hb := sz_mid k hk1 hlt
          have H := Lib.hid hb.2
          have hb1 := hb.1
          clear hb
          go_wp2_with (at_builtin; go_must (refine wpList_append_any _ rfl _ _ _ rfl w.heap.size 3 i0 _ 1 8 Try.underlying80 hi hz0 hz1 hz2 rfl (by omega) _ k _ rfl (hown.alloc _) (wr.heap.size + 1) _ 1 1 [.int .i64 (Sz.sz k)] rfl (reads_new wr _ _ 1 1 rfl _ (by omega)) (by simp [Value.oneCell']) (by simp only [maxLen]; omega) (by omega) (by have := hB.size; simp; omega) ?_); intro v1 w1 hown1 hg1 hat1)
          go_roundw
          case rel => exact ⟨k + 1, by omega, by omega, by rw [H.out], by rw [szCells_succ]; exact hown1, (hB.alloc hB.size _).grown hg1 (by have := hB.size; simp; omega) (fun j hj => (hown.lt j hj).1)⟩
          case measure => simp [intOf]; omega
        · obtain rfl : k = 12 := by omega
          clear hk1 hk2
          have hsz : Sz.sz 12 = 4096 := by decide
          have hsz' : 2048 < Sz.sz 12 := by rw [hsz]; decide
          clear hsz
          go_wp2
          go_loopw [1, 4] (fun v n wr => ∃ k : Nat, 12 ≤ k ∧ k ≤ 43 ∧ n = .int .i64 (Sz.sz k) ∧ wr.ownsRow w.heap.size 3 1 v k (szCells k) ∧ Below w.heap.size w wr) (fun _ n _ => 70000 - (intOf n).toNat)
          case atStart => exact ⟨12, by omega, by omega, rfl, hown, hB⟩
          case round =>
            clear hown hB
            obtain ⟨k, hk1, hk2, rfl, hown, hB⟩ := hrel
            by_cases hlt : k < 43
            · have hb := sz_high k hk1 hlt
              have H := Lib.hid hb.2
              have hb1 := hb.1
              clear hb
              go_wp2_with (at_builtin; go_must (refine wpList_append_any _ rfl _ _ _ rfl w.heap.size 3 i0 _ 1 8 Try.underlying80 hi hz0 hz1 hz2 rfl (by omega) _ k _ rfl (hown.alloc _) (wr.heap.size + 1) _ 1 1 [.int .i64 (Sz.sz k)] rfl (reads_new wr _ _ 1 1 rfl _ (by omega)) (by simp [Value.oneCell']) (by simp only [maxLen]; omega) (by omega) (by have := hB.size; simp; omega) ?_); intro v1 w1 hown1 hg1 hat1)
              go_roundw
              case rel => exact ⟨k + 1, by omega, by omega, by rw [H.out], by rw [szCells_succ]; exact hown1, (hB.alloc hB.size _).grown hg1 (by have := hB.size; simp; omega) (fun j hj => (hown.lt j hj).1)⟩
              case measure => simp [intOf]; omega
            · obtain rfl : k = 43 := by omega
              have hsz : 65536 < Sz.sz 43 := by decide
              obtain ⟨g, cap, rfl⟩ := ownsRow_succ (k := 42) hown
              go_wp2
              go_ret
              exact ⟨g, cap, rfl, hown, hB⟩

theorem szCells_get {k : Nat} (h : k < 43) : (szCells 43)[k]? = some (.int .i64 (Sz.sz k)) := by simp [szCells, h]

theorem own_cell {w : World} {base e g n cap : Nat} {xs : List Value} (h : w.ownsRow base e 1 (.slice (some ⟨g, 0, none⟩) n cap) n xs) {j : Nat} {u : Value} (hu : xs[j]? = some u) : w.cell? ⟨g, j, none⟩ = some u := by
  have := h.cells (g := g) rfl j u hu
  have e : (⟨g, 0, none⟩ : Addr).add j = ⟨g, j, none⟩ := by unfold Addr.add; split <;> simp_all
  rwa [e] at this

theorem rclass_no (x : Int) (w : World) (hx : x < 1 ∨ 65536 < x) : Calls Try.prog 42 #[.int .i64 x] w fun e w' => e = .returned (.tuple #[.int .i64 (Sz.cla x), .int .i64 (Sz.err x)]) ∧ Below w.heap.size w w' := by
  rcases hx with hx | hx
  · have H : Sz.cla x = 0 ∧ Sz.err x = 1 := by unfold Sz.cla Sz.err; rw [if_pos hx, if_pos hx]; exact ⟨rfl, rfl⟩
    rw [H.1, H.2]
    clear H
    go_enter Try.func42, Try.ntmps42
    go_wp2
    go_ret2
    exact ⟨rfl, Below.refl _ _⟩
  · have hn : ¬ x < 1 := by omega
    have H : Sz.cla x = 0 ∧ Sz.err x = 4 := by unfold Sz.cla Sz.err; rw [if_neg hn, if_pos hx, if_neg hn, if_pos hx]; exact ⟨rfl, rfl⟩
    rw [H.1, H.2]
    clear H
    go_enter Try.func42, Try.ntmps42
    go_wp2
    go_ret2
    exact ⟨rfl, Below.refl _ _⟩

set_option maxRecDepth 100000 in
set_option maxHeartbeats 1000000 in
theorem rclass_yes (x : Int) (w : World) (h1 : 1 ≤ x) (h2 : x ≤ 65536) : Calls Try.prog 42 #[.int .i64 x] w fun e w' => e = .returned (.tuple #[.int .i64 (Sz.cls x), .int .i64 0]) ∧ Below w.heap.size w w' := by
  obtain ⟨hc1, hc2, hc3⟩ := Sz.cls_spec h2
  have d1 : decide (x < 1) = false := by simp; omega
  have d2 : decide (65536 < x) = false := by simp; omega
  obtain ⟨c, hc⟩ : ∃ c, Sz.cls x = c := ⟨_, rfl⟩
  rw [hc] at hc1 hc2 hc3 ⊢
  clear hc
  have HC := Lib.hid hc3
  clear hc3
  go_enter Try.func42, Try.ntmps42
  go_wp2_with (go_at_call 43; refine (all_any _).mono ?_; rintro e w1 ⟨g, cap, rfl, hown, hb⟩)
  have HO := Lib.hid hown
  clear hown
  go_loop [5] (fun i => ∃ k : Nat, k ≤ c ∧ i = .int .i64 (k : Int)) (fun i => 43 - (intOf i).toNat)
  case atStart => exact ⟨0, by omega, rfl⟩
  case round =>
    obtain ⟨k, hk, rfl⟩ := hrel
    have hcell := own_cell HO.out (szCells_get (k := k) (by omega))
    by_cases hlt : k < c
    · have hs := HC.out k hlt
      go_wp2
      go_round
      case rel => exact ⟨k + 1, by omega, by go_num⟩
      case measure => simp [intOf]; omega
    · obtain rfl : k = c := by omega
      go_wp2
      go_ret2
      exact ⟨rfl, hb⟩

theorem rclass_any (x : Int) (w : World) : Calls Try.prog 42 #[.int .i64 x] w fun e w' => e = .returned (.tuple #[.int .i64 (Sz.cla x), .int .i64 (Sz.err x)]) ∧ Below w.heap.size w w' := by
  by_cases hx : x < 1 ∨ 65536 < x
  · exact rclass_no x w hx
  · have H : Sz.cla x = Sz.cls x ∧ Sz.err x = 0 := by
      unfold Sz.cla Sz.err
      rw [if_neg (by omega), if_neg (by omega), if_neg (by omega), if_neg (by omega)]; exact ⟨rfl, rfl⟩
    rw [H.1, H.2]
    exact rclass_yes x w (by omega) (by omega)

set_option maxRecDepth 100000 in
set_option maxHeartbeats 1000000 in
theorem rround_any (x : Int) (w : World) : Calls Try.prog 24 #[.int .i64 x] w fun e w' => e = .returned (.tuple #[.int .i64 (Sz.rnd x), .int .i64 (Sz.err x)]) ∧ Below w.heap.size w w' := by
  by_cases hx : x < 1 ∨ 65536 < x
  · have H : Sz.rnd x = 0 := by
      unfold Sz.rnd
      rcases hx with hx | hx
      · rw [if_pos hx]
      · rw [if_neg (by omega), if_pos hx]
    have he : (Sz.err x != 0) = true := by
      unfold Sz.err
      rcases hx with hx | hx
      · rw [if_pos hx]; rfl
      · rw [if_neg (by omega), if_pos hx]; rfl
    rw [H]
    clear H hx
    go_enter Try.func24, Try.ntmps24
    go_wp2_with (go_at_call 42; refine (rclass_any _ _).mono ?_; rintro e w1 ⟨rfl, hb⟩)
    go_ret2
    exact ⟨rfl, hb⟩
  · have H : Sz.rnd x = Sz.sz (Sz.cls x) ∧ Sz.err x = 0 := by
      unfold Sz.rnd Sz.err
      rw [if_neg (by omega), if_neg (by omega), if_neg (by omega), if_neg (by omega)]; exact ⟨rfl, rfl⟩
    rw [H.1, H.2]
    clear H
    obtain ⟨hc1, _⟩ := Sz.cls_spec (n := x) (by omega)
    have hcl := rclass_yes x w (by omega) (by omega)
    obtain ⟨c, hc⟩ : ∃ c, Sz.cls x = c := ⟨_, rfl⟩
    rw [hc] at hc1 hcl ⊢
    clear hc hx
    have HL := Lib.hid hcl
    clear hcl
    go_enter Try.func24, Try.ntmps24
    go_wp2_with (go_at_call 42; refine HL.out.mono ?_; rintro e w1 ⟨rfl, hb⟩)
    refine (all_any _).mono ?_
    rintro e w2 ⟨g, cap, rfl, hown, hb2⟩
    have hcell := own_cell hown (szCells_get (k := c) (by omega))
    clear hown
    go_wp2
    go_ret2
    exact ⟨rfl, hb.trans (hb2.mono hb.size)⟩

end Go.Proofs.Ytejogdielfgeoaa
/- Extents over the abstract state. -/
namespace Go.Proofs.Ytejogdielfgeoaa
open Go.RowKit Go.Shelf
set_option linter.unusedVariables false
set_option linter.unusedSimpArgs false

section
variable {W w : World} {L : List Res} {n c : Nat} {A : Option Addr} {xs : List Ext}
theorem Exts.at (h : Exts W W.heap.size A n c xs) (hw : St [] W L w) : Exts w w.heap.size A n c xs := (h.below hw.below).more hw.pres.size
def exV (e : Ext) : Value := .agg #[.int .i64 e.off, .int .i64 e.len]
theorem Exts.ld {b off i : Nat} (h : Exts W W.heap.size (some ⟨b, off, none⟩) n c xs) (hi : i < n) : LD Try.prog [] W L 39 ⟨b, off + i * 2, none⟩ (.agg #[.int .i64 (Ex.get xs i).off, .int .i64 (Ex.get xs i).len]) := fun w hw => by
  obtain ⟨b', off', e, hb, hc⟩ := h.cells (by omega)
  cases e
  obtain ⟨h1, h2⟩ := hc i hi
  refine loadAt_agg (P := Try.prog) (m := 2) (by kernel_rfl) [.int .i64 (Ex.get xs i).off, .int .i64 (Ex.get xs i).len] rfl fun j v hv => ?_
  rw [Addr.add_lit, hw.base_cell hb (by simp)]
  match j, hv with
  | 0, hv => cases hv; exact h1
  | 1, hv => cases hv; exact h2
theorem Exts.ld0 {b off i : Nat} (h : Exts W W.heap.size (some ⟨b, off, none⟩) n c xs) (hi : i < n) : LD Try.prog [] W L 3 ⟨b, off + i * 2, none⟩ (.int .i64 (Ex.get xs i).off) := fun w hw => by
  obtain ⟨b', off', e, hb, hc⟩ := h.cells (by omega)
  cases e
  exact loadAt_one (P := Try.prog) (m := 1) (by kernel_rfl) ((hw.base_cell hb (by simp)).trans (hc i hi).1)
theorem Exts.ld1 {b off i : Nat} (h : Exts W W.heap.size (some ⟨b, off, none⟩) n c xs) (hi : i < n) : LD Try.prog [] W L 3 ⟨b, off + i * 2 + 1, none⟩ (.int .i64 (Ex.get xs i).len) := fun w hw => by
  obtain ⟨b', off', e, hb, hc⟩ := h.cells (by omega)
  cases e
  exact loadAt_one (P := Try.prog) (m := 1) (by kernel_rfl) ((hw.base_cell hb (by simp)).trans (hc i hi).2)
end
theorem get_take {xs : List Ext} {k i : Nat} (h : i < k) : Ex.get (xs.take k) i = Ex.get xs i := by
  unfold Ex.get
  rw [List.getD_eq_getElem?_getD, List.getD_eq_getElem?_getD, List.getElem?_take, if_pos h]
theorem get_drop {xs : List Ext} {k i : Nat} : Ex.get (xs.drop k) i = Ex.get xs (k + i) := by
  unfold Ex.get
  rw [List.getD_eq_getElem?_getD, List.getD_eq_getElem?_getD, List.getElem?_drop]
theorem Exts.take {w : World} {B n c : Nat} {A : Option Addr} {xs : List Ext} (h : Exts w B A n c xs) {k : Nat} (hk : k ≤ n) : Exts w B A k c (xs.take k) :=
  ⟨by rw [List.length_take, h.len]; omega, by have := h.cap; omega, h.max, fun hn => by
    obtain ⟨b, off, e, hb, hc⟩ := h.cells (by omega)
    exact ⟨b, off, e, hb, fun i hi => by rw [get_take hi]; exact hc i (by omega)⟩⟩
theorem Exts.drop {w : World} {B n c : Nat} {A : Option Addr} {xs : List Ext} (h : Exts w B A n c xs) {k : Nat} (hk : k ≤ n) : Exts w B (sbase c k 2 A) (n - k) (c - k) (xs.drop k) :=
  ⟨by rw [List.length_drop, h.len], by have := h.cap; omega, by have := h.max; omega, fun hn => by
    obtain ⟨b, off, e, hb, hc⟩ := h.cells (by omega)
    have := h.cap
    refine ⟨b, off + k * 2, by rw [e, sbase_some (by omega), Addr.add_lit], hb, fun i hi => ?_⟩
    rw [get_drop]
    have e1 : off + k * 2 + i * 2 = off + (k + i) * 2 := by omega
    rw [e1]
    exact hc (k + i) (by omega)⟩
theorem Exts.of_blk {M : List Nat} {W w : World} {L : List Res} {b : Nat} {t : TypeId} {e : Ext} (hw : St M W L w) (hm : Res.blk b t [.int .i64 e.off, .int .i64 e.len] ∈ L) : Exts w w.heap.size (some ⟨b, 0, none⟩) 1 1 [e] :=
  ⟨rfl, Nat.le_refl _, by omega, fun _ => ⟨_, _, rfl, (hw.own _ hm b (by simp [Res.foot])).2, fun i hi => by
    obtain rfl : i = 0 := by omega
    exact ⟨(hw.blk_cell hm 0).trans rfl, (hw.blk_cell hm 1).trans rfl⟩⟩⟩
theorem propB_iff (e : Ext) : e.propB = true ↔ 0 ≤ e.off ∧ 0 < e.len ∧ e.off + e.len ≤ 1048576 := decide_eq_true_iff
theorem ones_exCells (l : List Ext) : ones (exCells l) = true := by
  unfold ones exCells
  simp [List.all_flatMap, Value.oneCell']
theorem cells_len {xs : List Ext} {n : Nat} (h : (exCells xs).length = n * 2) : xs.length = n := by rw [exCells_len] at h; omega
end Go.Proofs.Ytejogdielfgeoaa
/- The contract of Insert. -/
namespace Go.Proofs.Ytejogdielfgeoaa
open Go.RowKit Go.Shelf
set_option linter.unusedVariables false
set_option linter.unusedSimpArgs false
set_option maxRecDepth 100000

def rowPost (T : TypeId) (size : Nat) (f : Value → Value) (xs : List Value) (w : World) (e : Ending) (w' : World) : Prop :=
  ∃ A n c, e = .returned (f (.slice A n c)) ∧ w'.ownsRow w.heap.size T size (.slice A n c) n xs ∧ Below w.heap.size w w'
def eBox (b : Nat) (e : Ext) : Res := .blk b 39 [.int .i64 e.off, .int .i64 e.len]
theorem insL_fit {xs : List Ext} {e e1 : Ext} {i f1 : Nat} (hi : i ≤ xs.length) (hv : Ex.vld xs) (hp : e.prop) (h : Ex.insL xs e i = (f1, e1)) : e1.prop ∧ f1 ≤ i := by
  unfold Ex.insL at h
  split at h
  · rename_i hc
    have hx := (hv (i - 1) (by omega)).1
    obtain ⟨rfl, rfl⟩ := Prod.mk.inj h
    have h2 := hc.2
    unfold Ext.end_ at h2
    unfold Ext.prop at *
    dsimp only
    omega
  · obtain ⟨rfl, rfl⟩ := Prod.mk.inj h
    exact ⟨hp, Nat.le_refl _⟩
theorem insR_fit {xs : List Ext} {e1 e2 : Ext} {i l2 : Nat} (hi : i ≤ xs.length) (h : Ex.insR xs e1 i = (l2, e2)) : i ≤ l2 ∧ l2 ≤ xs.length := by
  unfold Ex.insR at h
  split at h
  · rename_i hc
    obtain ⟨rfl, rfl⟩ := Prod.mk.inj h
    omega
  · obtain ⟨rfl, rfl⟩ := Prod.mk.inj h
    omega
theorem concat_ext {W w : World} {L : List Res} {A : Option Addr} {n c f1 l2 i : Nat} {xs : List Ext} {t1 t2 : TypeId} {b1 b2 : Nat} {e2 : Ext} (hw : St [] W L w) (hE : Exts w w.heap.size A n c xs) (hf : f1 ≤ i) (hl : i ≤ l2 ∧ l2 ≤ n)
    (hm2 : Res.blk b2 t2 [.slice A f1 c, .slice (some ⟨b1, 0, none⟩) 1 1, .slice (sbase c l2 2 A) (n - l2) (c - l2)] ∈ L) (hm1 : Res.blk b1 t1 [.int .i64 e2.off, .int .i64 e2.len] ∈ L) (hn : n ≤ 1000) :
    Calls Try.prog 49 #[.slice (some ⟨b2, 0, none⟩) 3 3] w
      (fun e w' => ∃ A' n' c', e = .returned (.slice A' n' c') ∧ w'.ownsRow w.heap.size 39 2 (.slice A' n' c') n' (exCells (xs.take f1 ++ ([e2] ++ xs.drop l2))) ∧ Below w.heap.size w w') := by
  have hE0 := hE.take (k := f1) (by omega)
  have hE1 := Exts.of_blk hw hm1
  have hE2 := hE.drop (k := l2) (by omega)
  have hp := concat_any b2 3 (fun k => match k with | 0 => A | 1 => some ⟨b1, 0, none⟩ | _ => sbase c l2 2 A) (fun k => match k with | 0 => f1 | 1 => 1 | _ => n - l2) (fun k => match k with | 0 => c | 1 => 1 | _ => c - l2)
    (fun k => match k with | 0 => xs.take f1 | 1 => [e2] | _ => xs.drop l2) w ((hw.own _ hm2 b2 (by simp [Res.foot])).2) (by omega) (by simp only [sumTo]; omega)
    (fun k hk => by
      match k, hk with
      | 0, _ => exact hw.blk_cell hm2 0
      | 1, _ => exact hw.blk_cell hm2 1
      | 2, _ => exact hw.blk_cell hm2 2)
    (fun k hk => by
      match k, hk with
      | 0, _ => exact hE0
      | 1, _ => exact hE1
      | 2, _ => exact hE2)
  refine hp.mono ?_
  rintro en w' ⟨A', c', rfl, hown, hB⟩
  refine ⟨A', _, c', rfl, ?_, hB⟩
  have e1 : catTo (fun k => match k with | 0 => xs.take f1 | 1 => [e2] | _ => xs.drop l2) 3 = xs.take f1 ++ ([e2] ++ xs.drop l2) := by simp [catTo]
  rw [← e1]
  exact hown
set_option maxHeartbeats 1000000 in
theorem insert_good (A : Option Addr) (n c : Nat) (xs : List Ext) (e : Ext) (W : World) (hE : Exts W W.heap.size A n c xs) (hn : n ≤ 1000) :
    Calls Try.prog 36 #[.slice A n c, .agg #[.int .i64 e.off, .int .i64 e.len]] W (rowPost 39 2 (fun v => .tuple #[v, .int .i64 (Ex.insF xs e).2]) (exCells (Ex.insF xs e).1) W) := by
  refine calls_cv (M := []) (n := 101) [.tmp 4, .tmp 5] rfl Try.func36 rfl rfl (Nat.le_of_ble_eq_true rfl) (St.nil _ _) ?_
  refine cv_seq_k fun K hK => ?_
  refine cv_region_then rfl ?_
  simp -implicitDefEqProofs (disch := first | omega | decide) only [seval, -Int.reducePow, -Nat.reducePow, cC, pv, binv, eBox]
  intro b hb
  refine hK _ _ ?_
  clear hK K
  refine cv_gen fun G1 hG => ?_
  have g1_0 := congrFun hG 0
  have g1_3 := congrFun hG 3
  clear hG
  try simp -implicitDefEqProofs (disch := first | omega | decide) only [seval, -Int.reducePow, -Nat.reducePow, cC, pv, binv, eBox] at g1_0 g1_3
  have g1 := And.intro g1_0 g1_3
  refine cv_seq_k fun K hK => ?_
  refine cv_seq_k fun K hK => ?_
  refine cv_cut (fun _ _ => True) (fun F' L' => F' 0 = G1 0 ∧ F' 3 = G1 3 ∧ F' 16 = .bool (!Ex.vldB xs || !e.propB) ∧ L' = [eBox b e]) ?_ ?_
  · refine cv_region_then rfl ?_
    simp -implicitDefEqProofs (disch := first | omega | decide) only [seval, -Int.reducePow, -Nat.reducePow, cC, pv, binv, eBox, g1]
    refine callV_ret (fun w hw => valid_any A n c xs w (hE.at hw)) ?_
    try simp -implicitDefEqProofs (disch := first | omega | decide) only [seval, -Int.reducePow, -Nat.reducePow, cC, pv, binv, eBox, g1]
    repeat' ((first | refine vcg_cases (fun hg => ?_) (fun hg => ?_) | refine vdg_cases (fun hg => ?_) (fun hg => ?_)) <;> ((try simp only [Bool.not_eq_true', Bool.not_eq_false', decide_eq_true_eq, decide_eq_false_iff_not] at hg); (try simp -implicitDefEqProofs (disch := first | omega | decide) only [seval, -Int.reducePow, -Nat.reducePow, cC, pv, binv, eBox, hg, g1])))
    refine callV_ret (fun w hw => proper_any _ _ w) ?_
    try simp -implicitDefEqProofs (disch := first | omega | decide) only [seval, -Int.reducePow, -Nat.reducePow, cC, pv, binv, eBox, g1]
    all_goals (first | (simp [hg]; done) | (simp [hg]; omega))
  · intro G2 L' _ hF
    obtain ⟨q0, q3, q16, rfl⟩ := hF
    have g2_0 := q0.trans g1_0
    have g2_3 := q3.trans g1_3
    have g2_16 := q16
    clear q0 q3 q16
    have g2 := And.intro g2_0 (And.intro g2_3 g2_16)
    refine hK _ _ ?_
    clear hK K
    refine cv_cond ?_
    simp -implicitDefEqProofs (disch := first | omega | decide) only [seval, -Int.reducePow, -Nat.reducePow, cC, pv, binv, eBox, g2]
    refine ⟨fun hc => ?_, fun hc => ?_⟩
    · refine cv_seq_k fun K hK => ?_
      refine cv_region_then rfl ?_
      simp -implicitDefEqProofs (disch := first | omega | decide) only [seval, -Int.reducePow, -Nat.reducePow, cC, pv, binv, eBox, g2]
      refine hK _ _ ?_
      clear hK K
      refine cv_ret ⟨_, (by simp -implicitDefEqProofs (disch := first | omega | decide) only [seval, -Int.reducePow, -Nat.reducePow, cC, pv, binv, eBox, g2]; rfl), fun w hw => ?_⟩
      have hF : Ex.insF xs e = ([], 1) := by
        unfold Ex.insF
        rw [if_pos]
        rw [← Ex.vldB_iff]
        have : e.propB = true ↔ e.prop := decide_eq_true_iff
        rw [← this]
        simpa [Bool.or_eq_true] using hc
      exact ⟨none, 0, 0, by rw [hF], by rw [hF]; exact World.ownsRow_nil _ _ _ _, hw.below⟩
    · refine cv_skip ?_
      try simp only [blockQ, thenQ]
      simp only [Bool.or_eq_false_iff, Bool.not_eq_false'] at hc
      obtain ⟨hv, hp⟩ := hc
      have hv := (Ex.vldB_iff xs).1 hv
      have hpp : e.prop := decide_eq_true_iff.1 hp
      have hp := (propB_iff e).1 hp
      refine hK _ _ ?_
      clear hK K
      refine cv_seq_k fun K hK => ?_
      refine cv_region_then rfl ?_
      simp -implicitDefEqProofs (disch := first | omega | decide) only [seval, -Int.reducePow, -Nat.reducePow, cC, pv, binv, eBox, g2]
      refine callV_ex (fun i : Nat => .int .i64 i) (Aft xs e.off) (fun w hw => after_any A n c xs e.off w (hE.at hw) hv) ?_
      intro i hA
      try simp -implicitDefEqProofs (disch := first | omega | decide) only [seval, -Int.reducePow, -Nat.reducePow, cC, pv, binv, eBox, g2]
      refine hK _ _ ?_
      clear hK K
      have hin : i ≤ n := by have := hA.1; rw [hE.len] at this; exact this
      have hai : Ex.aft xs e.off = i := Ex.aft_eq hA.1 hA.2.1 (fun h => hA.2.2 i (Nat.le_refl _) h)
      refine cv_gen fun G3 hG => ?_
      have g3_0 := congrFun hG 0
      have g3_3 := congrFun hG 3
      have g3_6 := congrFun hG 6
      clear hG
      try simp -implicitDefEqProofs (disch := first | omega | decide) only [seval, -Int.reducePow, -Nat.reducePow, cC, pv, binv, eBox, g2] at g3_0 g3_3 g3_6
      have g3 := And.intro g3_0 (And.intro g3_3 g3_6)
      refine cv_seq_k fun K hK => ?_
      refine cv_seq_k fun K hK => ?_
      refine cv_cut (fun _ _ => True) (fun F' L' => F' 0 = G3 0 ∧ F' 3 = G3 3 ∧ F' 6 = G3 6 ∧ F' 34 = .bool (decide (i < n ∧ (Ex.get xs i).off < e.end_)) ∧ L' = [eBox b e]) ?_ ?_
      · by_cases hlt : i < n
        · obtain ⟨b0, off, rfl, hb0, -⟩ := hE.cells (by omega)
          have hlt' : (i : Int) < n := by omega
          refine cv_draw [(true, 0), (true, 1), (true, 2), (true, 3), (true, 4), (true, 5), (true, 6), (true, 7), (true, 8), (true, 9), (true, 10), (false, 11), (true, 12), (true, 13)] [] mixA rfl (by kernel_rfl) (by kernel_rfl) rfl rfl ?_
          simp -implicitDefEqProofs (disch := first | omega | decide) only [seval, -Int.reducePow, -Nat.reducePow, cC, pv, binv, eBox, hlt', g3]
          refine ⟨_, hE.ld0 hlt, fun tok htok => ?_⟩
          subst htok
          simp -implicitDefEqProofs (disch := first | omega | decide) only [seval, -Int.reducePow, -Nat.reducePow, cC, pv, binv, eBox, g3]
          refine callV_ret (fun w hw => end_prop e w hpp) ?_
          try simp -implicitDefEqProofs (disch := first | omega | decide) only [seval, -Int.reducePow, -Nat.reducePow, cC, pv, binv, eBox, g3]
          all_goals (first | (simp [hlt]; done) | (simp [hlt]; omega))
        · have hlt' : ¬ (i : Int) < n := by omega
          refine cv_draw [(true, 0), (true, 1), (true, 2), (true, 3), (true, 4), (true, 5), (true, 6), (true, 7), (true, 8), (true, 9), (true, 10), (false, 11), (true, 12), (true, 13)] [] mixA rfl (by kernel_rfl) (by kernel_rfl) rfl rfl ?_
          simp -implicitDefEqProofs (disch := first | omega | decide) only [seval, -Int.reducePow, -Nat.reducePow, cC, pv, binv, eBox, hlt', g3]
          all_goals (first | (simp [hlt]; done) | (simp [hlt]; omega))
      · intro G4 L' _ hF
        obtain ⟨q0, q3, q6, q34, rfl⟩ := hF
        have g4_0 := q0.trans g3_0
        have g4_3 := q3.trans g3_3
        have g4_6 := q6.trans g3_6
        have g4_34 := q34
        clear q0 q3 q6 q34
        have g4 := And.intro g4_0 (And.intro g4_3 (And.intro g4_6 g4_34))
        refine hK _ _ ?_
        clear hK K
        refine cv_cond ?_
        simp -implicitDefEqProofs (disch := first | omega | decide) only [seval, -Int.reducePow, -Nat.reducePow, cC, pv, binv, eBox, g4]
        refine ⟨fun hc => ?_, fun hc => ?_⟩
        · refine cv_seq_k fun K hK => ?_
          refine cv_region_then rfl ?_
          simp -implicitDefEqProofs (disch := first | omega | decide) only [seval, -Int.reducePow, -Nat.reducePow, cC, pv, binv, eBox, g4]
          refine hK _ _ ?_
          clear hK K
          refine cv_ret ⟨_, (by simp -implicitDefEqProofs (disch := first | omega | decide) only [seval, -Int.reducePow, -Nat.reducePow, cC, pv, binv, eBox, g4]; rfl), fun w hw => ?_⟩
          have hF : Ex.insF xs e = ([], 5) := by
            unfold Ex.insF
            rw [if_neg (by rintro (h | h); exact h hv; exact h hpp), if_pos (by rw [hai, hE.len]; exact of_decide_eq_true hc)]
          exact ⟨none, 0, 0, by rw [hF], by rw [hF]; exact World.ownsRow_nil _ _ _ _, hw.below⟩
        · refine cv_skip ?_
          try simp only [blockQ, thenQ]
          have hF : Ex.insF xs e = (xs.take (Ex.insL xs e i).1 ++ ([(Ex.insR xs (Ex.insL xs e i).2 i).2] ++ xs.drop (Ex.insR xs (Ex.insL xs e i).2 i).1), 0) := by
            unfold Ex.insF
            rw [if_neg (by rintro (h | h); exact h hv; exact h hpp), if_neg (by rw [hai, hE.len]; exact of_decide_eq_false hc), hai]
          refine hK _ _ ?_
          clear hK K
          refine cv_seq_k fun K hK => ?_
          refine cv_region_then rfl ?_
          simp -implicitDefEqProofs (disch := first | omega | decide) only [seval, -Int.reducePow, -Nat.reducePow, cC, pv, binv, eBox, g4]
          refine hK _ _ ?_
          clear hK K
          refine cv_gen fun G5 hG => ?_
          have g5_0 := congrFun hG 0
          have g5_3 := congrFun hG 3
          have g5_6 := congrFun hG 6
          have g5_7 := congrFun hG 7
          have g5_8 := congrFun hG 8
          clear hG
          try simp -implicitDefEqProofs (disch := first | omega | decide) only [seval, -Int.reducePow, -Nat.reducePow, cC, pv, binv, eBox, g4] at g5_0 g5_3 g5_6 g5_7 g5_8
          have g5 := And.intro g5_0 (And.intro g5_3 (And.intro g5_6 (And.intro g5_7 g5_8)))
          refine cv_seq_k fun K hK => ?_
          refine cv_seq_k fun K hK => ?_
          refine cv_cut (fun _ _ => True) (fun F' L' => F' 0 = G5 0 ∧ F' 3 = G5 3 ∧ F' 6 = G5 6 ∧ F' 7 = G5 7 ∧ F' 8 = G5 8 ∧ F' 49 = .bool (decide (0 < i ∧ (Ex.get xs (i - 1)).end_ = e.off)) ∧ L' = [eBox b e]) ?_ ?_
          · by_cases hlt : 0 < i
            · obtain ⟨j, rfl⟩ : ∃ j, i = j + 1 := ⟨i - 1, by omega⟩
              obtain ⟨b0, off, rfl, hb0, -⟩ := hE.cells (by omega)
              have hlt' : (0 : Int) < ((j + 1 : Nat) : Int) := by omega
              have hj : IntKind.i64.wrap (((j + 1 : Nat) : Int) - 1) = (j : Int) := by rw [wrap_in (by omega) (by omega)]; omega
              have hx := (hv j (by rw [hE.len]; omega)).1
              refine cv_draw [(true, 0), (true, 1), (true, 2), (true, 3), (true, 4), (true, 5), (true, 6), (true, 7), (true, 9), (true, 10), (false, 8), (true, 11), (true, 12)] [] mixA rfl (by kernel_rfl) (by kernel_rfl) rfl rfl ?_
              simp -implicitDefEqProofs (disch := first | omega | decide) only [seval, -Int.reducePow, -Nat.reducePow, cC, pv, binv, eBox, hlt', hj, g5]
              refine ⟨_, hE.ld (show j < n by omega), fun tok htok => ?_⟩
              subst htok
              simp -implicitDefEqProofs (disch := first | omega | decide) only [seval, -Int.reducePow, -Nat.reducePow, cC, pv, binv, eBox, g5]
              refine callV_ret (fun w hw => end_prop (Ex.get xs j) w hx) ?_
              try simp -implicitDefEqProofs (disch := first | omega | decide) only [seval, -Int.reducePow, -Nat.reducePow, cC, pv, binv, eBox, g5]
              all_goals (first | (simp; done) | (simp; omega))
            · have hlt' : ¬ (0 : Int) < (i : Int) := by omega
              refine cv_draw [(true, 0), (true, 1), (true, 2), (true, 3), (true, 4), (true, 5), (true, 6), (true, 7), (true, 9), (true, 10), (false, 8), (true, 11), (true, 12)] [] mixA rfl (by kernel_rfl) (by kernel_rfl) rfl rfl ?_
              simp -implicitDefEqProofs (disch := first | omega | decide) only [seval, -Int.reducePow, -Nat.reducePow, cC, pv, binv, eBox, hlt', g5]
              all_goals (first | (simp [hlt]; done) | (simp [hlt]; omega))
          · intro G6 L' _ hF
            obtain ⟨q0, q3, q6, q7, q8, q49, rfl⟩ := hF
            have g6_0 := q0.trans g5_0
            have g6_3 := q3.trans g5_3
            have g6_6 := q6.trans g5_6
            have g6_7 := q7.trans g5_7
            have g6_8 := q8.trans g5_8
            have g6_49 := q49
            clear q0 q3 q6 q7 q8 q49
            have g6 := And.intro g6_0 (And.intro g6_3 (And.intro g6_6 (And.intro g6_7 (And.intro g6_8 g6_49))))
            refine hK _ _ ?_
            clear hK K
            obtain ⟨f1, e1, hf1⟩ : ∃ f1 e1, Ex.insL xs e i = (f1, e1) := ⟨_, _, rfl⟩
            refine cv_cut (fun _ _ => True) (fun F' L' => F' 0 = G6 0 ∧ F' 3 = G6 3 ∧ F' 6 = G6 6 ∧ F' 7 = .int .i64 (f1 : Int) ∧ F' 8 = G6 8 ∧ L' = [eBox b e1]) ?_ ?_
            · refine cv_cond ?_
              simp -implicitDefEqProofs (disch := first | omega | decide) only [seval, -Int.reducePow, -Nat.reducePow, cC, pv, binv, eBox, g6]
              refine ⟨fun hc => ?_, fun hc => ?_⟩
              · obtain ⟨hi, hj⟩ := of_decide_eq_true hc
                obtain ⟨j, rfl⟩ : ∃ j, i = j + 1 := ⟨i - 1, by omega⟩
                simp only [Nat.add_sub_cancel] at hj
                unfold Ex.insL at hf1
                rw [if_pos ⟨hi, hj⟩] at hf1
                simp only [Nat.add_sub_cancel] at hf1
                obtain ⟨hf1, hf1'⟩ := Prod.mk.inj hf1
                subst hf1
                subst hf1'
                obtain ⟨b0, off, rfl, hb0, -⟩ := hE.cells (by omega)
                have hx : 0 ≤ (Ex.get xs j).off ∧ 0 < (Ex.get xs j).len ∧ (Ex.get xs j).off + (Ex.get xs j).len ≤ 1048576 := (hv j (by rw [hE.len]; omega)).1
                have hj : IntKind.i64.wrap (((j + 1 : Nat) : Int) - 1) = (j : Int) := by rw [wrap_in (by omega) (by omega)]; omega
                refine cv_seq_k fun K hK => ?_
                refine cv_region_then rfl ?_
                simp -implicitDefEqProofs (disch := first | omega | decide) only [seval, -Int.reducePow, -Nat.reducePow, cC, pv, binv, eBox, hj, g6]
                refine hK _ _ ?_
                clear hK K
                refine cv_gen fun G7 hG => ?_
                have g7_0 := congrFun hG 0
                have g7_3 := congrFun hG 3
                have g7_6 := congrFun hG 6
                have g7_7 := congrFun hG 7
                have g7_8 := congrFun hG 8
                clear hG
                try simp -implicitDefEqProofs (disch := first | omega | decide) only [seval, -Int.reducePow, -Nat.reducePow, cC, pv, binv, eBox, g6] at g7_0 g7_3 g7_6 g7_7 g7_8
                have g7 := And.intro g7_0 (And.intro g7_3 (And.intro g7_6 (And.intro g7_7 g7_8)))
                refine cv_draw [(true, 0), (true, 1), (true, 2), (true, 3), (true, 4), (true, 5), (true, 6), (true, 7), (true, 8), (true, 9), (true, 10), (true, 11), (true, 12), (true, 13), (false, 14)] [14] mixA rfl (by kernel_rfl) (by kernel_rfl) rfl rfl ?_
                simp -implicitDefEqProofs (disch := first | omega | decide) only [seval, -Int.reducePow, -Nat.reducePow, cC, pv, binv, eBox, g6, g7]
                refine ⟨_, hE.ld0 (show j < n by omega), fun tok htok => ?_⟩
                subst htok
                simp -implicitDefEqProofs (disch := first | omega | decide) only [seval, -Int.reducePow, -Nat.reducePow, cC, pv, binv, eBox, g6, g7]
                refine ⟨_, hE.ld1 (show j < n by omega), fun tok htok => ?_⟩
                subst htok
                simp -implicitDefEqProofs (disch := first | omega | decide) only [seval, -Int.reducePow, -Nat.reducePow, cC, pv, binv, eBox, wrap_in, g6, g7]
                all_goals (first | (simp; done) | (simp; omega))
              · refine cv_skip ?_
                try simp only [blockQ, thenQ]
                unfold Ex.insL at hf1
                rw [if_neg (of_decide_eq_false hc)] at hf1
                cases hf1
                simp -implicitDefEqProofs (disch := first | omega | decide) only [seval, -Int.reducePow, -Nat.reducePow, cC, pv, binv, eBox, g6]
            · intro G8 L' _ hF
              obtain ⟨q0, q3, q6, q7, q8, rfl⟩ := hF
              have g8_0 := q0.trans g6_0
              have g8_3 := q3.trans g6_3
              have g8_6 := q6.trans g6_6
              have g8_7 := q7
              have g8_8 := q8.trans g6_8
              clear q0 q3 q6 q7 q8
              have g8 := And.intro g8_0 (And.intro g8_3 (And.intro g8_6 (And.intro g8_7 g8_8)))
              refine hK _ _ ?_
              clear hK K
              have hL1 := insL_fit (by rw [hE.len]; exact hin) hv hpp hf1
              have hf1i := hL1.2
              have hcap := hE.cap
              have hp1 : 0 ≤ e1.off ∧ 0 < e1.len ∧ e1.off + e1.len ≤ 1048576 := hL1.1
              refine cv_seq_k fun K hK => ?_
              refine cv_seq_k fun K hK => ?_
              refine cv_cut (fun _ _ => True) (fun F' L' => F' 0 = G8 0 ∧ F' 3 = G8 3 ∧ F' 6 = G8 6 ∧ F' 7 = G8 7 ∧ F' 8 = G8 8 ∧ F' 79 = .bool (decide (i < n ∧ (Ex.get xs i).off = e1.end_)) ∧ L' = [eBox b e1]) ?_ ?_
              · by_cases hlt : i < n
                · obtain ⟨b0, off, rfl, hb0, -⟩ := hE.cells (by omega)
                  have hlt' : (i : Int) < n := by omega
                  refine cv_draw [(true, 0), (true, 1), (true, 2), (true, 3), (true, 4), (true, 5), (true, 6), (true, 7), (true, 8), (true, 9), (true, 10), (false, 11), (true, 12), (true, 13)] [] mixA rfl (by kernel_rfl) (by kernel_rfl) rfl rfl ?_
                  simp -implicitDefEqProofs (disch := first | omega | decide) only [seval, -Int.reducePow, -Nat.reducePow, cC, pv, binv, eBox, hlt', g8]
                  refine ⟨_, hE.ld0 hlt, fun tok htok => ?_⟩
                  subst htok
                  simp -implicitDefEqProofs (disch := first | omega | decide) only [seval, -Int.reducePow, -Nat.reducePow, cC, pv, binv, eBox, g8]
                  refine callV_ret (fun w hw => end_prop e1 w hL1.1) ?_
                  try simp -implicitDefEqProofs (disch := first | omega | decide) only [seval, -Int.reducePow, -Nat.reducePow, cC, pv, binv, eBox, g8]
                  all_goals (first | (simp [hlt]; done) | (simp [hlt]; omega))
                · have hlt' : ¬ (i : Int) < n := by omega
                  refine cv_draw [(true, 0), (true, 1), (true, 2), (true, 3), (true, 4), (true, 5), (true, 6), (true, 7), (true, 8), (true, 9), (true, 10), (false, 11), (true, 12), (true, 13)] [] mixA rfl (by kernel_rfl) (by kernel_rfl) rfl rfl ?_
                  simp -implicitDefEqProofs (disch := first | omega | decide) only [seval, -Int.reducePow, -Nat.reducePow, cC, pv, binv, eBox, hlt', g8]
                  all_goals (first | (simp [hlt]; done) | (simp [hlt]; omega))
              · intro G9 L' _ hF
                obtain ⟨q0, q3, q6, q7, q8, q79, rfl⟩ := hF
                have g9_0 := q0.trans g8_0
                have g9_3 := q3.trans g8_3
                have g9_6 := q6.trans g8_6
                have g9_7 := q7.trans g8_7
                have g9_8 := q8.trans g8_8
                have g9_79 := q79
                clear q0 q3 q6 q7 q8 q79
                have g9 := And.intro g9_0 (And.intro g9_3 (And.intro g9_6 (And.intro g9_7 (And.intro g9_8 g9_79))))
                refine hK _ _ ?_
                clear hK K
                obtain ⟨l2, e2, hf2⟩ : ∃ l2 e2, Ex.insR xs e1 i = (l2, e2) := ⟨_, _, rfl⟩
                refine cv_cut (fun _ _ => True) (fun F' L' => F' 0 = G9 0 ∧ F' 3 = G9 3 ∧ F' 7 = G9 7 ∧ F' 8 = .int .i64 (l2 : Int) ∧ L' = [eBox b e2]) ?_ ?_
                · refine cv_cond ?_
                  simp -implicitDefEqProofs (disch := first | omega | decide) only [seval, -Int.reducePow, -Nat.reducePow, cC, pv, binv, eBox, g9]
                  refine ⟨fun hc => ?_, fun hc => ?_⟩
                  · obtain ⟨hi, hj⟩ := of_decide_eq_true hc
                    unfold Ex.insR at hf2
                    rw [if_pos ⟨by rw [hE.len]; exact hi, hj⟩] at hf2
                    cases hf2
                    obtain ⟨b0, off, rfl, hb0, -⟩ := hE.cells (by omega)
                    have hx : 0 ≤ (Ex.get xs i).off ∧ 0 < (Ex.get xs i).len ∧ (Ex.get xs i).off + (Ex.get xs i).len ≤ 1048576 := (hv i (by rw [hE.len]; omega)).1
                    refine cv_seq_k fun K hK => ?_
                    refine cv_region_then rfl ?_
                    simp -implicitDefEqProofs (disch := first | omega | decide) only [seval, -Int.reducePow, -Nat.reducePow, cC, pv, binv, eBox, wrap_in, g9]
                    refine hK _ _ ?_
                    clear hK K
                    refine cv_gen fun G10 hG => ?_
                    have g10_0 := congrFun hG 0
                    have g10_3 := congrFun hG 3
                    have g10_6 := congrFun hG 6
                    have g10_7 := congrFun hG 7
                    have g10_8 := congrFun hG 8
                    clear hG
                    try simp -implicitDefEqProofs (disch := first | omega | decide) only [seval, -Int.reducePow, -Nat.reducePow, cC, pv, binv, eBox, g9] at g10_0 g10_3 g10_6 g10_7 g10_8
                    have g10 := And.intro g10_0 (And.intro g10_3 (And.intro g10_6 (And.intro g10_7 g10_8)))
                    refine cv_draw [(true, 0), (true, 1), (true, 2), (true, 3), (true, 4), (true, 5), (true, 6), (true, 7), (true, 8), (false, 9)] [9] mixA rfl (by kernel_rfl) (by kernel_rfl) rfl rfl ?_
                    simp -implicitDefEqProofs (disch := first | omega | decide) only [seval, -Int.reducePow, -Nat.reducePow, cC, pv, binv, eBox, g9, g10]
                    refine ⟨_, hE.ld1 hi, fun tok htok => ?_⟩
                    subst htok
                    simp -implicitDefEqProofs (disch := first | omega | decide) only [seval, -Int.reducePow, -Nat.reducePow, cC, pv, binv, eBox, wrap_in, g9, g10]
                    all_goals (first | (simp; done) | (simp; omega))
                  · refine cv_skip ?_
                    try simp only [blockQ, thenQ]
                    unfold Ex.insR at hf2
                    rw [if_neg (by rw [hE.len]; exact of_decide_eq_false hc)] at hf2
                    cases hf2
                    simp -implicitDefEqProofs (disch := first | omega | decide) only [seval, -Int.reducePow, -Nat.reducePow, cC, pv, binv, eBox, g9]
                · intro G11 L' _ hF
                  obtain ⟨q0, q3, q7, q8, rfl⟩ := hF
                  have g11_0 := q0.trans g9_0
                  have g11_3 := q3.trans g9_3
                  have g11_7 := q7.trans g9_7
                  have g11_8 := q8
                  clear q0 q3 q7 q8
                  have g11 := And.intro g11_0 (And.intro g11_3 (And.intro g11_7 g11_8))
                  refine hK _ _ ?_
                  clear hK K
                  have hR := insR_fit (by rw [hE.len]; exact hin) hf2
                  rw [hE.len] at hR
                  rw [hf1] at hF
                  simp only at hF
                  rw [hf2] at hF
                  refine cv_seq_k fun K hK => ?_
                  refine cv_draw [(true, 0), (true, 1), (true, 2), (true, 3), (true, 5), (true, 6), (true, 7), (false, 4), (false, 8), (false, 9), (true, 10), (true, 11)] [] mixA rfl (by kernel_rfl) (by kernel_rfl) rfl rfl ?_
                  simp -implicitDefEqProofs (disch := first | omega | decide) only [seval, -Int.reducePow, -Nat.reducePow, cC, pv, binv, eBox, g11]
                  intro b1 hb1 h1 b2 hb2 h2
                  refine callV_row (fun A n c => .slice A n c) (fun w hw => concat_ext hw (hE.at hw) hf1i hR (.head _) (.tail _ (.head _)) hn) ?_
                  intro A' n' c' hl' _
                  simp -implicitDefEqProofs (disch := first | omega | decide) only [seval, -Int.reducePow, -Nat.reducePow, cC, pv, binv, eBox, g11]
                  refine hK _ _ ?_
                  clear hK K
                  refine cv_ret ⟨_, (by simp -implicitDefEqProofs (disch := first | omega | decide) only [seval, -Int.reducePow, -Nat.reducePow, cC, pv, binv, eBox, g11]; rfl), fun w hw => ?_⟩
                  exact ⟨A', n', c', by rw [hF], by rw [hF]; exact ownsRow_new (hw.holds _ (.head _)) (hw.own _ (.head _)), hw.below⟩
end Go.Proofs.Ytejogdielfgeoaa
/- Rows and blocks that hold extents. -/
namespace Go.Proofs.Ytejogdielfgeoaa
open Go.RowKit Go.Shelf
set_option linter.unusedVariables false
set_option linter.unusedSimpArgs false
set_option maxRecDepth 100000

theorem Exts.of_blkL {M : List Nat} {W w : World} {L : List Res} {b n : Nat} {t : TypeId} {xs : List Ext} (hw : St M W L w) (hm : Res.blk b t (exCells xs) ∈ L) (hn : xs.length = n) (h : n ≤ 1000) : Exts w w.heap.size (some ⟨b, 0, none⟩) n n xs :=
  ⟨hn, Nat.le_refl _, by omega, fun _ => ⟨_, _, rfl, (hw.own _ hm b (by simp [Res.foot])).2, fun i hi => by
    subst hn
    rw [hw.blk_cell hm, hw.blk_cell hm, Nat.zero_add]
    have := exCells_get xs i hi
    exact this⟩⟩
theorem Exts.of_row {M : List Nat} {W w : World} {L : List Res} {A : Option Addr} {n c : Nat} {xs : List Ext} (hw : St M W L w) (hm : Res.row (.slice A n c) 39 2 n (exCells xs) ∈ L) : Exts w w.heap.size A n c xs := Exts.of_own (hw.holds _ hm)
end Go.Proofs.Ytejogdielfgeoaa
