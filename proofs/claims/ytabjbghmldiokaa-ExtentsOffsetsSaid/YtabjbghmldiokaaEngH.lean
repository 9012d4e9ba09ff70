/- A range over a function whose values are known: the rule of XEngG with a predicate on the next value. -/
import Derived.Test.YtabjbghmldiokaaEngG
namespace Go.Proofs.Ytabjbghmldiokaa
open Go.RowKit Go.Shelf
set_option linter.unusedVariables false
set_option linter.unusedSimpArgs false
def IterP (P : Program) (M : List Nat) (W : World) {α : Type} (gf : Nat) (lb : Array Value) (encs : α → Array Value) (Pn : List α → α → Prop) (S Sp : List α → Prop) (A : List Res) : Prop :=
  ∀ (l : Nat) (I Ix : List α → Res → Prop), (∀ pre R, I pre R → ∃ f p loc, R = .dat f p loc) →
    (∀ pre x X R, Pn pre x → I pre R → YV P M W l (encs x) (X ++ [R]) fun v L' => (v = .bool true ∧ ∃ R', I (pre ++ [x]) R' ∧ L' = X ++ [R']) ∨ (v = .bool false ∧ ∃ R', Ix (pre ++ [x]) R' ∧ L' = X ++ [R'])) →
    ∀ R w, I [] R → St M W (A ++ [R]) w → Calls P gf (#[.func (.yield l) #[] #[]] ++ lb) w fun e w' => (∃ v, e = .returned v) ∧
      ((∃ xs R', S xs ∧ I xs R' ∧ St M W (A ++ [R']) w') ∨ (∃ pre R', Sp pre ∧ Ix pre R' ∧ St M W (A ++ [R']) w'))
section
variable {P : Program} {M : List Nat} {W : World} {n : Nat} {D : List Nat} {F : Fr} {L : List Res} {Q : Exit → List Nat → Fr → List Res → Prop}
theorem cvf_rangeP {α : Type} {g : Operand} {ps : Array Tmp} {assign body : Code} {gf : Nat} {lb : Array Value} {encs : α → Array Value} {Pn : List α → α → Prop} {S Sp : List α → Prop} {A : List Res} (B : List Res)
    (hg : ev F g = .func (.func gf) #[] lb) (hgb : hasBody P gf = true) (hit : IterP P M W gf lb encs Pn S Sp A) (hps : ∀ x, (encs x).size = ps.size) (hpn : ps.toList.all (fun t => Nat.ble (t + 1) n) = true) (hL : L = A ++ B)
    (I : List α → List Res → Prop) (Ix : Code → List α → List Res → Prop) (h0 : I [] B)
    (hbody : ∀ l pre x R B', Pn pre x → I pre B' → CVF P (some l) M W n assign [] (setF F (ps.toList.zip (encs x).toList)) (B' ++ [R]) (asgQ P l M W n body I Ix (pre ++ [x]) R))
    (hdone : ∀ d xs B', S xs → I xs B' → Q .normal (d :: D) F (dfr d :: (A ++ B')))
    (hstop : ∀ d c pre B', Sp pre → Ix c pre B' → jmpQ Q c (d :: D) F (dfr d :: (A ++ B'))) : CVF P none M W n (.rangeFunc g ps assign body) D F L Q := fun a w ha hw => by
  subst hL
  refine wpIn_rangeFunc ?_
  intro fn hfn
  obtain ⟨rcd, hrcd⟩ : ∃ rcd : LoopState → Option Code → Loop, rcd = fun st pe => { state := st, pending := pe, fn, tmps := a.tmps, params := ps, assign, body, defers := w.heap.size } := ⟨_, rfl⟩
  obtain ⟨d, hd⟩ : ∃ d, w.heap.size = d := ⟨_, rfl⟩
  obtain ⟨l, hl⟩ : ∃ l, d + 1 = l := ⟨_, rfl⟩
  obtain ⟨W1, hW1⟩ : ∃ W1, (w.alloc (.deferred (some []))).alloc (.loop (rcd .ready none)) = W1 := ⟨_, rfl⟩
  have hst1 : St M W (A ++ (B ++ [recR l (rcd .ready none), dfr d])) W1 := by
    have q1 : St M W (dfr d :: (A ++ B)) (w.alloc (.deferred (some []))) := by
      rw [← hd]
      exact hw.addD (World.alloc_heap_new w _)
    have q2 : St M W (recR l (rcd .ready none) :: dfr d :: (A ++ B)) W1 := by
      rw [← hW1, ← hl]
      have e : (w.alloc (.deferred (some []))).heap.size = d + 1 := by simp [hd]
      have := q1.addD (o := .loop (rcd .ready none)) (p := fun w => w.heap[d + 1]? = some (.loop (rcd .ready none))) (loc := fun _ _ hk h => (hk (d + 1) (by rw [e]; simp)).trans h) (by
        have := World.alloc_heap_new (w.alloc (.deferred (some []))) (.loop (rcd .ready none))
        rwa [e] at this)
      unfold recR
      simp only [e] at this
      exact this
    refine q2.perm ?_
    rw [← List.append_assoc]
    exact (List.perm_append_comm (l₁ := A ++ B) (l₂ := [recR l (rcd .ready none), dfr d]))
  have hap0 : ApL (B ++ [recR l (rcd .ready none), dfr d]) := hst1.apR
  have key := hit l (fun pre R => ∃ B', I pre B' ∧ ApL (B' ++ [recR l (rcd .ready none), dfr d]) ∧ R = foldR (B' ++ [recR l (rcd .ready none), dfr d]))
    (fun pre R => ∃ c B', Ix c pre B' ∧ ApL (B' ++ [recR l (rcd .done (some c)), dfr d]) ∧ R = foldR (B' ++ [recR l (rcd .done (some c)), dfr d])) (by rintro pre R ⟨B', -, -, rfl⟩; exact ⟨_, _, _, rfl⟩) ?round
    (foldR (B ++ [recR l (rcd .ready none), dfr d])) W1 ⟨B, h0, hap0, rfl⟩ hst1.fold
  case round =>
    rintro pre x X R hlen ⟨B', hI, hap, rfl⟩ w1 hw1
    have hw2 := hw1.unfold hap
    have hr1 : w1.heap[l]? = some (.loop (rcd .ready none)) := hw2.holds (recR l (rcd .ready none)) (by simp)
    have hps' : (encs x).size = (rcd .ready none).params.size := by rw [hrcd]; exact hps x
    have hy := run_yield (P := P) (args := encs x) hr1 hps'
    rw [hrcd] at hy
    dsimp only at hy
    have hperm : (B' ++ (X ++ [recR l (rcd .ready none), dfr d])).Perm (X ++ (B' ++ [recR l (rcd .ready none), dfr d])) := by
      rw [← List.append_assoc, ← List.append_assoc]
      exact (List.perm_append_comm).append_right _
    have hw3 := hw2.perm hperm
    have hapX : ApL (X ++ [recR l (rcd .ready none), dfr d]) := hw3.apR
    have hfr : FrD [] n { tmps := (ps.zip (encs x)).foldl (fun tmps (t, a) => tmps.setIfInBounds t a) a.tmps, defers := [] } (setF F (ps.toList.zip (encs x).toList)) := by
      refine ⟨rfl, ?_⟩
      have := FrOK.setF (ps.toList.zip (encs x).toList) (tm := a.tmps) (F := F) ha.ok fun y hy => by
        have := List.all_eq_true.1 hpn y.1 (List.of_mem_zip hy).1
        exact Nat.le_of_ble_eq_true this
      have e : (ps.zip (encs x)).foldl (fun tmps (t, a) => tmps.setIfInBounds t a) a.tmps = (ps.toList.zip (encs x).toList).foldl (fun t (p : Nat × Value) => t.setIfInBounds p.1 p.2) a.tmps := by
        rw [← Array.toList_zip, Array.foldl_toList]
      rw [e]
      exact this
    refine ⟨fn, _, assign, body, hy, roundIn_of_wpIn hfn (wpIn_mono (hbody l pre x _ B' hlen hI _ w1 hfr hw3.fold) ?_)⟩
    intro e a1 w2 hq
    cases e with
    | normal =>
      obtain ⟨D', F', L', f1, s1, rfl, B2, rfl, hb⟩ := hq
      have s2 := s1.unfold hapX
      have hr2 : w2.heap[l]? = some (.loop (rcd .ready none)) := s2.holds (recR l (rcd .ready none)) (by simp)
      have hlt2 : l < w2.heap.size := (Array.getElem?_eq_some_iff.1 hr2).1
      refine ⟨_, run_beginRound hr2 (by rw [hrcd]), ?_⟩
      have ebusy : ({ rcd .ready none with state := .busy } : Loop) = rcd .busy none := by rw [hrcd]
      rw [ebusy]
      have s3 : St M W (B2 ++ (X ++ [recR l (rcd .busy none), dfr d])) (w2.putObj l (.loop (rcd .busy none))) := by
        have e : B2 ++ (X ++ [recR l (rcd .ready none), dfr d]) = (B2 ++ X) ++ recR l (rcd .ready none) :: [dfr d] := by simp
        rw [e] at s2
        have := s2.putD (o := .loop (rcd .busy none)) (p' := fun w => w.heap[l]? = some (.loop (rcd .busy none))) (loc' := fun _ _ hk h => (hk l (by simp)).trans h) (World.putObj_heap_same hlt2)
        have e2 : B2 ++ (X ++ [recR l (rcd .busy none), dfr d]) = (B2 ++ X) ++ recR l (rcd .busy none) :: [dfr d] := by simp
        rw [e2]
        exact this
      have hapB : ApL (X ++ [recR l (rcd .busy none), dfr d]) := s3.apR
      refine wpIn_mono (hb _ a1 _ f1 s3.fold) ?_
      have fin : ∀ (jump : Option Code) (B3 : List Res) (w3 : World), St M W (B3 ++ [foldR (X ++ [recR l (rcd .busy none), dfr d])]) w3 →
          ∃ w4, (Instr.endRound l jump).run P w3 = .ok (.bool jump.isNone) w4 ∧ St M W (X ++ (B3 ++ [recR l (rcd (if jump.isNone then .ready else .done) jump), dfr d])) w4 := fun jump B3 w3 h3 => by
        have h4 := h3.unfold hapB
        have hr3 : w3.heap[l]? = some (.loop (rcd .busy none)) := h4.holds (recR l (rcd .busy none)) (by simp)
        refine ⟨_, run_endRound jump hr3, ?_⟩
        have ee : ({ rcd .busy none with state := if jump.isNone then .ready else .done, pending := jump } : Loop) = rcd (if jump.isNone then .ready else .done) jump := by rw [hrcd]
        rw [ee]
        have e : B3 ++ (X ++ [recR l (rcd .busy none), dfr d]) = (B3 ++ X) ++ recR l (rcd .busy none) :: [dfr d] := by simp
        rw [e] at h4
        have := h4.putD (o := .loop (rcd (if jump.isNone then .ready else .done) jump)) (p' := fun w => w.heap[l]? = some (.loop (rcd (if jump.isNone then .ready else .done) jump))) (loc' := fun _ _ hk h => (hk l (by simp)).trans h) (World.putObj_heap_same (Array.getElem?_eq_some_iff.1 hr3).1)
        refine this.perm ?_
        rw [← List.append_assoc]
        exact (List.perm_append_comm).append_right _
      rintro e a3 w3 hp
      cases e with
      | normal =>
        obtain ⟨D3, F3, L3, f3, s4, B3, rfl, hi⟩ := hp
        obtain ⟨w4, hr, s5⟩ := fin none B3 w3 s4
        exact ⟨_, _, hr, _, _, rfl, s5.fold, .inl ⟨rfl, _, ⟨B3, hi, s5.apR, rfl⟩, rfl⟩⟩
      | ret =>
        obtain ⟨D3, F3, L3, f3, s4, B3, rfl, hi⟩ := hp
        obtain ⟨w4, hr, s5⟩ := fin (some .ret) B3 w3 s4
        exact ⟨_, _, hr, _, _, rfl, s5.fold, .inr ⟨rfl, _, ⟨_, B3, hi, s5.apR, rfl⟩, rfl⟩⟩
      | exit id =>
        obtain ⟨D3, F3, L3, f3, s4, B3, rfl, hi⟩ := hp
        obtain ⟨w4, hr, s5⟩ := fin (some (.exit id)) B3 w3 s4
        exact ⟨_, _, hr, _, _, rfl, s5.fold, .inr ⟨rfl, _, ⟨_, B3, hi, s5.apR, rfl⟩, rfl⟩⟩
      | goto t => obtain ⟨D3, F3, L3, f3, s4, hh⟩ := hp; exact hh.elim
      | panic c => exact hp.elim
      | outgrown => exact hp.elim
    | ret => obtain ⟨D3, F3, L3, f3, s4, hh⟩ := hq; exact hh.elim
    | exit id => obtain ⟨D3, F3, L3, f3, s4, hh⟩ := hq; exact hh.elim
    | goto t => obtain ⟨D3, F3, L3, f3, s4, hh⟩ := hq; exact hh.elim
    | panic c => exact hq.elim
    | outgrown => exact hq.elim
  have hev : a.eval = ev F := ha.ok.eval
  refine ⟨l, [col d], W1, { target := .fn (.func gf) lb, args := #[.func (.yield l) #[] #[]] }, W1, gf, #[.func (.yield l) #[] #[]] ++ lb, W1, ?_, ?_, ?_, ?_, ?_, ?_⟩
  · rw [← hW1, hrcd, ← hl, ← hd]
    exact run_enterLoop_outer _ _ _ _ _
  · simp only [resolve, hev, hg, rangeCall, Deferred.ofValue]
    simp [go_sem, ev]
  · intro _ _
    exact trivial
  · simp only [invoke, callFunc_enter hgb]
  · intro hh
    cases hh
  · refine callsR ?_
    refine key.mono ?_
    have hfr : FrD (d :: D) n { a with defers := [col d] ++ a.defers } F := ⟨by simp [ha.defers], ha.ok⟩
    have fin : ∀ (st : LoopState) (pe : Option Code) (B' : List Res) (w3 : World), st ≠ .busy → ApL (B' ++ [recR l (rcd st pe), dfr d]) → St M W (A ++ [foldR (B' ++ [recR l (rcd st pe), dfr d])]) w3 →
        ∃ w4, (Instr.endLoop l).run P w3 = .ok pe w4 ∧ St M W (dfr d :: (A ++ B')) w4 := fun st pe B' w3 hst hap h3 => by
      have h4 := h3.unfold hap
      have hr3 : w3.heap[l]? = some (.loop (rcd st pe)) := h4.holds (recR l (rcd st pe)) (by simp)
      have e1 : (rcd st pe).state = st := by rw [hrcd]
      have e2 : (rcd st pe).pending = pe := by rw [hrcd]
      have := run_endLoop (P := P) hr3 (by rw [e1]; exact hst)
      have this2 : (Instr.endLoop l).run P w3 = .ok pe (w3.putObj l (.loop { rcd st pe with state := .exhausted })) := this.trans (by subst hrcd; rfl)
      refine ⟨_, this2, ?_⟩
      have e : A ++ (B' ++ [recR l (rcd st pe), dfr d]) = (A ++ B') ++ recR l (rcd st pe) :: [dfr d] := by simp
      rw [e] at h4
      have h5 := h4.putD (o := .loop { rcd st pe with state := .exhausted }) (p' := fun _ => True) (loc' := fun _ _ _ _ => trivial) trivial
      have h6 := h5.perm (L' := .dat [l] (fun _ => True) (fun _ _ _ _ => trivial) :: dfr d :: (A ++ B')) (List.perm_append_comm (l₁ := [_, dfr d]) (l₂ := A ++ B'))
      exact h6.tail
    rintro e w3 ⟨⟨v, rfl⟩, (⟨xs, R', hS, ⟨B', hI, hap, rfl⟩, s⟩ | ⟨pre, R', hSp, ⟨c, B', hI, hap, rfl⟩, s⟩)⟩
    · obtain ⟨w4, hr, s4⟩ := fin .ready none B' w3 (by simp) hap s
      exact ⟨none, w4, hr, d :: D, F, _, hfr, s4, hdone d xs B' hS hI⟩
    · obtain ⟨w4, hr, s4⟩ := fin .done (some c) B' w3 (by simp) hap s
      refine ⟨some c, w4, hr, ?_⟩
      have hj := hstop d c pre B' hSp hI
      unfold jmpQ at hj
      split at hj
      · exact wpIn_ret ⟨d :: D, F, _, hfr, s4, hj⟩
      · exact wpIn_exit ⟨d :: D, F, _, hfr, s4, hj⟩
      · exact hj.elim
end
end Go.Proofs.Ytabjbghmldiokaa
