/- Contracts of the tape of numbers that the laws build their data from: Next, More, Of. -/
import Derived.Test.YtabjbghmldiokaaEng7
namespace Go.Proofs.Ytabjbghmldiokaa
open Go.RowKit Go.Shelf
set_option linter.unusedVariables false

theorem own_cell1 {w : World} {base e g n cap : Nat} {xs : List Value} (h : w.ownsRow base e 1 (.slice (some ⟨g, 0, none⟩) n cap) n xs) {j : Nat} {u : Value} (hu : xs[j]? = some u) : w.cell? ⟨g, j, none⟩ = some u := by
  have := h.cells (g := g) rfl j u hu
  have e : (⟨g, 0, none⟩ : Addr).add j = ⟨g, j, none⟩ := by unfold Addr.add; split <;> simp_all
  rwa [e] at this
/-- Two rows whose elements differ in type lie in blocks of their own. -/
theorem own_own_ne {w : World} {base base' : Nat} {e e' : TypeId} {size size' n n' : Nat} {v v' : Value} {xs xs' : List Value} (h : w.ownsRow base e size v n xs) (h' : w.ownsRow base' e' size' v' n' xs') (hne : e ≠ e') : v.ownBlock = none ∨ v.ownBlock ≠ v'.ownBlock := by
  rcases h.2 with ⟨rfl, _⟩ | ⟨g, cap, cur, rfl, _, hh, _⟩
  · exact .inl rfl
  · refine .inr fun he => ?_
    rcases h'.2 with ⟨rfl, _⟩ | ⟨g', cap', cur', rfl, _, hh', _⟩
    · simp [Value.ownBlock] at he
    · have : g = g' := by simpa [Value.ownBlock] using he
      subst this
      rw [hh] at hh'
      injection hh' with hh'
      injection hh' with _ ht
      exact hne ht

/-- A tape behind a pointer to block T: its numbers L, of which I have been read. -/
structure Tape (w : World) (base T : Nat) (g c : Nat) (L : List Int) (I : Nat) : Prop where
  blk : Blk w T 66 #[.slice (some ⟨g, 0, none⟩) L.length c, .int .i64 I]
  row : w.ownsRow base 69 1 (.slice (some ⟨g, 0, none⟩) L.length c) L.length (L.map (Value.int .u16))
  lo : base ≤ T
  rng : ∀ i, 0 ≤ L.getD i 0 ∧ L.getD i 0 ≤ 65535
  small : L.length ≤ 1000000
  few : I ≤ 1000000000

theorem Tape.grown {w w' : World} {base T g c : Nat} {L : List Int} {I : Nat} (h : Tape w base T g c L I) {row : Option Nat} (hg : w.grownBy w' row) (h1 : some T ≠ row) (h2 : some g ≠ row) : Tape w' base T g c L I :=
  ⟨h.blk.grown hg h1, h.row.kept hg (.inr (by simpa [Value.ownBlock] using h2)), h.lo, h.rng, h.small, h.few⟩
theorem Tape.below {w w' : World} {base T g c : Nat} {L : List Int} {I : Nat} (h : Tape w base T g c L I) (hb : Below w.heap.size w w') : Tape w' base T g c L I :=
  h.grown (only_of_below hb none) (by simp) (by simp)

set_option maxRecDepth 100000 in
set_option maxHeartbeats 1000000 in
theorem next_any (base T g c : Nat) (L : List Int) (I : Nat) (m : Int) (w : World) (h : Tape w base T g c L I) (hm : 0 < m) (hI : I < 1000000000) :
    Calls Try.prog 44 #[.pointer (some ⟨T, 0, none⟩), .int .i64 m] w fun e w' => e = .returned (.int .i64 (L.getD I 0 % m)) ∧ Tape w' base T g c L (I + 1) ∧ w.grownBy w' (some T) := by
  have c0 : w.cell? ⟨T, 0, none⟩ = some (.slice (some ⟨g, 0, none⟩) L.length c) := (h.blk.cell 0).trans rfl
  have c1 : w.cell? ⟨T, 1, none⟩ = some (.int .i64 I) := (h.blk.cell 1).trans rfl
  have f1 : w.frozen? ⟨T, 1, none⟩ = false := h.blk.frozen 1
  have hr := h.rng I
  have hsm := h.small
  have HT := Lib.hid h
  have HL : Hid (I < L.length → w.cell? ⟨g, I, none⟩ = some (.int .u16 (L.getD I 0))) := fun hlt => own_cell1 h.row (by simp [hlt])
  clear h
  obtain ⟨x, hx⟩ : ∃ x, L.getD I 0 = x := ⟨_, rfl⟩
  obtain ⟨n, hn⟩ : ∃ n, L.length = n := ⟨_, rfl⟩
  rw [hx] at hr HL
  rw [hn] at c0 hsm HL
  have hfin : ∀ k : Nat, Tape ((w.drewN k).setCell ⟨T, 1, none⟩ (.int .i64 (I + 1))) base T g c L (I + 1) ∧ w.grownBy ((w.drewN k).setCell ⟨T, 1, none⟩ (.int .i64 (I + 1))) (some T) := fun k => by
    have hg : w.grownBy ((w.drewN k).setCell ⟨T, 1, none⟩ (.int .i64 (I + 1))) (some T) := only_setCell (only_drewN (World.grownBy.refl w (some T)) k) (.inl rfl) _
    refine ⟨⟨?_, ?_, HT.out.lo, HT.out.rng, HT.out.small, by omega⟩, hg⟩
    · have := (HT.out.blk.drewN k).set_ 1 (.int .i64 (I + 1))
      simpa using this
    · refine HT.out.row.kept hg (.inr ?_)
      have := own_blk_ne HT.out.row HT.out.blk (by decide)
      simpa [Value.ownBlock] using this
  have HF := Lib.hid hfin
  have HX := Lib.hid (And.intro hx hn)
  clear hx hn hfin
  have hi0 : (0 : Int) ≤ I := by omega
  by_cases hlt : I < n
  · have cL := HL.out hlt
    have hin : (I : Int) < n := by omega
    have hd : decide ((I : Int) < n) = true := by simpa using hin
    clear HL
    go_enter Try.func44, Try.ntmps44
    go_wp2
    have hS : w.drew.cell? ⟨T, 0, none⟩ = some (.slice (some ⟨g, 0, none⟩) n c) ∧ w.drew.cell? ⟨T, 1, none⟩ = some (.int .i64 I) := ⟨c0, c1⟩
    refine wp_region_plan [(true, 0), (true, 1), (true, 2), (true, 3), (true, 4), (true, 5), (true, 6), (true, 7), (true, 8), (true, 9)] (fun w' => w'.cell? ⟨T, 0, none⟩ = some (.slice (some ⟨g, 0, none⟩) n c) ∧ w'.cell? ⟨T, 1, none⟩ = some (.int .i64 I)) [] (by kernel_rfl) (by kernel_rfl) (by kernel_rfl) rfl (by intro _ d _ _ _ h; cases d <;> exact h) ?_
    iterate 10 ((refine plan_yes (v := ?_) hS rfl (by rfl) (fun W hW => ?_) ?_; rotate_left; focus ((try dsimp only at hW); go_simp; (try with_reducible rfl); done)); (try simp only [Act.put, List.setIfInBounds_toArray, List.set_cons_zero, List.set_cons_succ]))
    refine plan_done ?_
    go_wp2
    have hS3 : w.drew.drew.cell? ⟨T, 0, none⟩ = some (.slice (some ⟨g, 0, none⟩) n c) ∧ w.drew.drew.cell? ⟨T, 1, none⟩ = some (.int .i64 I) ∧ w.drew.drew.cell? ⟨g, I, none⟩ = some (.int .u16 x) := ⟨c0, c1, cL⟩
    refine wp_region_plan [(true, 0), (true, 1), (true, 2), (true, 3), (true, 4), (true, 5), (true, 6), (true, 7), (true, 8), (true, 9), (true, 10), (true, 11)] (fun w' => w'.cell? ⟨T, 0, none⟩ = some (.slice (some ⟨g, 0, none⟩) n c) ∧ w'.cell? ⟨T, 1, none⟩ = some (.int .i64 I) ∧ w'.cell? ⟨g, I, none⟩ = some (.int .u16 x)) [] (by kernel_rfl) (by kernel_rfl) (by kernel_rfl) rfl (by intro _ d _ _ _ h; cases d <;> exact h) ?_
    iterate 12 ((refine plan_yes (v := ?_) hS3 rfl (by rfl) (fun W hW => ?_) ?_; rotate_left; focus ((try dsimp only at hW); go_simp; (try with_reducible rfl); done)); (try simp only [Act.put, List.setIfInBounds_toArray, List.set_cons_zero, List.set_cons_succ]))
    refine plan_done ?_
    go_wp2
    go_ret
    rw [HX.out.1]
    exact ⟨rfl, HF.out 2⟩
  · have hd : decide ((I : Int) < n) = false := by simp; omega
    have hx0 : x = 0 := by rw [← HX.out.1]; simp [List.getD, List.getElem?_eq_none (show L.length ≤ I by have := HX.out.2; omega)]
    have HX0 := Lib.hid hx0
    clear hx0
    go_enter Try.func44, Try.ntmps44
    go_wp2
    have hS : w.drew.cell? ⟨T, 0, none⟩ = some (.slice (some ⟨g, 0, none⟩) n c) ∧ w.drew.cell? ⟨T, 1, none⟩ = some (.int .i64 I) := ⟨c0, c1⟩
    refine wp_region_plan [(true, 0), (true, 1), (true, 2), (true, 3), (true, 4), (true, 5), (true, 6), (true, 7), (true, 8), (true, 9)] (fun w' => w'.cell? ⟨T, 0, none⟩ = some (.slice (some ⟨g, 0, none⟩) n c) ∧ w'.cell? ⟨T, 1, none⟩ = some (.int .i64 I)) [] (by kernel_rfl) (by kernel_rfl) (by kernel_rfl) rfl (by intro _ d _ _ _ h; cases d <;> exact h) ?_
    iterate 10 ((refine plan_yes (v := ?_) hS rfl (by rfl) (fun W hW => ?_) ?_; rotate_left; focus ((try dsimp only at hW); go_simp; (try with_reducible rfl); done)); (try simp only [Act.put, List.setIfInBounds_toArray, List.set_cons_zero, List.set_cons_succ]))
    refine plan_done ?_
    go_wp2
    go_ret
    rw [HX.out.1, HX0.out]
    exact ⟨ret_int (by simp), HF.out 1⟩

set_option maxRecDepth 100000 in
set_option maxHeartbeats 1000000 in
theorem more_any (base T g c : Nat) (L : List Int) (I : Nat) (w : World) (h : Tape w base T g c L I) :
    Calls Try.prog 45 #[.pointer (some ⟨T, 0, none⟩)] w fun e w' => e = .returned (.bool (decide (I < L.length))) ∧ w' = w.drew := by
  have c0 : w.cell? ⟨T, 0, none⟩ = some (.slice (some ⟨g, 0, none⟩) L.length c) := (h.blk.cell 0).trans rfl
  have c1 : w.cell? ⟨T, 1, none⟩ = some (.int .i64 I) := (h.blk.cell 1).trans rfl
  clear h
  obtain ⟨n, hn⟩ : ∃ n, L.length = n := ⟨_, rfl⟩
  rw [hn] at c0 ⊢
  clear hn
  go_enter Try.func45, Try.ntmps45
  go_wp2
  have hS : w.drew.cell? ⟨T, 0, none⟩ = some (.slice (some ⟨g, 0, none⟩) n c) ∧ w.drew.cell? ⟨T, 1, none⟩ = some (.int .i64 I) := ⟨c0, c1⟩
  refine wp_region_plan [(true, 0), (true, 1), (true, 2), (true, 3), (true, 4), (true, 5), (true, 6), (true, 7), (true, 8), (true, 9), (true, 10)] (fun w' => w'.cell? ⟨T, 0, none⟩ = some (.slice (some ⟨g, 0, none⟩) n c) ∧ w'.cell? ⟨T, 1, none⟩ = some (.int .i64 I)) [] (by kernel_rfl) (by kernel_rfl) (by kernel_rfl) rfl (by intro _ d _ _ _ h; cases d <;> exact h) ?_
  iterate 11 ((refine plan_yes (v := ?_) hS rfl (by rfl) (fun W hW => ?_) ?_; rotate_left; focus ((try dsimp only at hW); go_simp; (try with_reducible rfl); done)); (try simp only [Act.put, List.setIfInBounds_toArray, List.set_cons_zero, List.set_cons_succ]))
  refine plan_done ?_
  go_wp2
  go_ret
  exact ⟨ret_bool (by simp), rfl⟩

/-- The slice value reads as the list of numbers L; its block lies below B. -/
structure U16s (w : World) (B : Nat) (A : Option Addr) (n c : Nat) (L : List Int) : Prop where
  len : L.length = n
  cap : n ≤ c
  max : c ≤ 9223372036854775807
  rng : ∀ i, 0 ≤ L.getD i 0 ∧ L.getD i 0 ≤ 65535
  cells : 0 < n → ∃ b off, A = some ⟨b, off, none⟩ ∧ b < B ∧ ∀ i, i < n → w.cell? ⟨b, off + i, none⟩ = some (.int .u16 (L.getD i 0))
theorem U16s.below {w w' : World} {B n c : Nat} {A : Option Addr} {L : List Int} (h : U16s w B A n c L) (hb : Below B w w') : U16s w' B A n c L :=
  ⟨h.len, h.cap, h.max, h.rng, fun hn => by
    obtain ⟨b, off, e, hB, hc⟩ := h.cells hn
    exact ⟨b, off, e, hB, fun i hi => ((bcell hb).1 _ _ hB).trans (hc i hi)⟩⟩
theorem U16s.more {w : World} {B B' n c : Nat} {A : Option Addr} {L : List Int} (h : U16s w B A n c L) (hB : B ≤ B') : U16s w B' A n c L :=
  ⟨h.len, h.cap, h.max, h.rng, fun hn => by
    obtain ⟨b, off, e, hb, hc⟩ := h.cells hn
    exact ⟨b, off, e, by omega, hc⟩⟩
theorem U16s.reads {w : World} {B n c m : Nat} {A : Option Addr} {L : List Int} (h : U16s w B A n c L) (hm : m ≤ n) : Reads w B 1 A m ((L.take m).map (Value.int .u16)) :=
  ⟨by have := h.len; simp; omega, fun hp => by
    obtain ⟨b, off, e, hB, hc⟩ := h.cells (by omega)
    refine ⟨_, e, hB, fun j u hu => ?_⟩
    have hj : j < m := by
      have := (List.getElem?_eq_some_iff.1 hu).1
      simp at this
      omega
    have e1 : (⟨b, off, none⟩ : Addr).add j = ⟨b, off + j, none⟩ := by unfold Addr.add; split <;> simp_all
    rw [e1, hc j (by omega)]
    have hlt : j < L.length := by have := h.len; omega
    simp [hj, hlt] at hu
    rw [← hu]
    simp [hlt]⟩

theorem u16_info : (Try.prog.info? 69).map (fun i => (i.zero, i.size, i.bytes)) = some (some (.int .u16 0), 1, 2) := by kernel_rfl

theorem own_some {w : World} {base : Nat} {e : TypeId} {size n g : Nat} {v : Value} {xs : List Value} (h : w.ownsRow base e size v n xs) (hg : v.ownBlock = some g) : ∃ cap, v = .slice (some ⟨g, 0, none⟩) n cap := by
  rcases h.2 with ⟨rfl, _⟩ | ⟨g', cap, cur, rfl, _⟩
  · simp [Value.ownBlock] at hg
  · have : g' = g := by simpa [Value.ownBlock] using hg
    subst this
    exact ⟨cap, rfl⟩

def ofPost (w : World) (L : List Int) (e : Ending) (w' : World) : Prop := (∃ T g cap, e = .returned (.pointer (some ⟨T, 0, none⟩)) ∧ Tape w' w.heap.size T g cap L 0) ∧ Below w.heap.size w w'

set_option maxRecDepth 100000 in
set_option maxHeartbeats 1000000 in
theorem of_any (A : Option Addr) (n c most : Nat) (L : List Int) (w : World) (h : U16s w w.heap.size A n c L) (hm : most ≤ 1000000) :
    Calls Try.prog 36 #[.slice A n c, .int .i64 most] w (ofPost w (L.take most)) := by
  obtain ⟨i0, hi, hz0, hz1, hz2⟩ := info_parts u16_info
  have hn := Nat.le_trans h.cap h.max
  have hcap := h.cap
  obtain ⟨m, hmm⟩ : ∃ m, (if most < n then most else n) = m := ⟨_, rfl⟩
  have hm1 : m ≤ n ∧ m ≤ most ∧ L.take m = L.take most := by
    subst hmm
    split
    · exact ⟨by omega, by omega, rfl⟩
    · exact ⟨by omega, by omega, by rw [List.take_of_length_le (by have := h.len; omega), List.take_of_length_le (by have := h.len; omega)]⟩
  have HR := Lib.hid (h.reads hm1.1)
  have HM := Lib.hid hm1.2.2
  have hmb := hm1.2.1
  have hfin : ∀ v' w1 (hown : w1.ownsRow w.heap.size 69 1 v' (0 + m) ([] ++ (L.take m).map (Value.int .u16))) (hg : (w.alloc (.cells #[] 69)).grownBy w1 (Value.slice (some ⟨w.heap.size, 0, none⟩) 0 0).ownBlock) (hat : v'.ownBlock = some w.heap.size ∨ v'.ownBlock = some (w.heap.size + 1)),
      ∃ g cap, v' = .slice (some ⟨g, 0, none⟩) m cap ∧ Tape (w1.alloc (.cells #[.slice (some ⟨g, 0, none⟩) m cap, .int .i64 0] 66)) w.heap.size w1.heap.size g cap (L.take most) 0 ∧ Below w.heap.size w (w1.alloc (.cells #[.slice (some ⟨g, 0, none⟩) m cap, .int .i64 0] 66)) := by
    intro v' w1 hown hg hat
    have hbw : Below w.heap.size w w1 := ((Below.refl _ w).alloc (Nat.le_refl _) _).grown hg (by simp) (fun k hk => by simp [Value.ownBlock] at hk; omega)
    obtain ⟨g, hgg⟩ : ∃ g, v'.ownBlock = some g := by rcases hat with h | h <;> exact ⟨_, h⟩
    obtain ⟨cap, rfl⟩ := own_some hown hgg
    rw [Nat.zero_add] at hown ⊢
    have hlen : (L.take most).length = m := by rw [← HM.out, List.length_take]; have := h.len; omega
    refine ⟨g, cap, rfl, ⟨?_, ?_, hbw.size, ?_, by rw [hlen]; omega, by omega⟩, hbw.alloc hbw.size _⟩
    · rw [hlen]; exact Blk.new _ _ _
    · rw [hlen, ← HM.out]; exact hown.alloc _
    · intro i
      rcases Nat.lt_or_ge i (L.take most).length with hi | hi
      · have := h.rng i
        have hl : i < L.length := by rw [List.length_take] at hi; omega
        have hmst : i < most := by rw [List.length_take] at hi; omega
        simpa [List.getD, List.getElem?_take, hmst] using this
      · simp [List.getD, List.getElem?_eq_none hi]
  have HF := Lib.hid hfin
  clear h hm1 hfin
  by_cases hlt : most < n
  · have hmv : m = most := by rw [← hmm, if_pos hlt]
    subst hmv
    clear hmm
    go_enter Try.func36, Try.ntmps36
    go_wp2_with (at_builtin; go_must (refine wpList_append_any _ rfl _ _ _ rfl w.heap.size 69 i0 _ 1 2 Try.underlying25 hi hz0 hz1 hz2 rfl (by omega) (.slice (some ⟨w.heap.size, 0, none⟩) 0 0) 0 [] rfl (World.ownsRow_made w #[] 0 (Nat.le_refl _) (by simp [maxLen]) rfl) w.heap.size A m _ ((L.take m).map (Value.int .u16)) rfl (HR.out.alloc (Nat.le_refl _) _) (by intro u hu; obtain ⟨x, _, rfl⟩ := List.mem_map.1 hu; rfl) (by simp only [maxLen]; omega) (by omega) (by simp) ?_); intro v1 w1 hown1 hg1 hat1; obtain ⟨g, cap, rfl, hT⟩ := HF.out v1 w1 hown1 hg1 (hat1.imp (fun h => h.trans rfl) (fun h => h.trans (by simp))); have HT := Lib.hid hT; clear hT hown1 hg1 hat1)
    go_ret
    exact ⟨⟨_, _, _, rfl, HT.out.1⟩, HT.out.2⟩
  · have hmv : m = n := by rw [← hmm, if_neg hlt]
    subst hmv
    clear hmm
    go_enter Try.func36, Try.ntmps36
    go_wp2_with (at_builtin; go_must (refine wpList_append_any _ rfl _ _ _ rfl w.heap.size 69 i0 _ 1 2 Try.underlying25 hi hz0 hz1 hz2 rfl (by omega) (.slice (some ⟨w.heap.size, 0, none⟩) 0 0) 0 [] rfl (World.ownsRow_made w #[] 0 (Nat.le_refl _) (by simp [maxLen]) rfl) w.heap.size A m _ ((L.take m).map (Value.int .u16)) rfl (HR.out.alloc (Nat.le_refl _) _) (by intro u hu; obtain ⟨x, _, rfl⟩ := List.mem_map.1 hu; rfl) (by simp only [maxLen]; omega) (by omega) (by simp) ?_); intro v1 w1 hown1 hg1 hat1; obtain ⟨g, cap, rfl, hT⟩ := HF.out v1 w1 hown1 hg1 (hat1.imp (fun h => h.trans rfl) (fun h => h.trans (by simp))); have HT := Lib.hid hT; clear hT hown1 hg1 hat1)
    go_ret
    exact ⟨⟨_, _, _, rfl, HT.out.1⟩, HT.out.2⟩
end Go.Proofs.Ytabjbghmldiokaa
