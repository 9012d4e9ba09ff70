/- The closed facts on the whole program that every row of this seat asks, each a theorem of its own; the words of the dump's head are read off its letters' numbers. Written by program (wip/facts.py). -/
import Derived.Test.YtnkgiaimcpbhkaaGreatRows
import Derived.WalkKit
import Derived.ProofKit
namespace Go.Proofs.YtnkgiaimcpbhkaaGreat

/-- The words of a text, read with an accumulator. -/
def wordsAcc : List Char → List Char → List (List Char)
  | acc, [] => [acc.reverse]
  | acc, c :: r => if c = Char.ofNat 32 then acc.reverse :: wordsAcc [] r else wordsAcc (c :: acc) r
theorem words_blank (r : List Char) : wordsSigns (Char.ofNat 32 :: r) = [] :: wordsSigns r := rfl
theorem wordsSigns_ne (l : List Char) : ∃ w ws, wordsSigns l = w :: ws := by
  induction l with
  | nil => exact ⟨_, _, rfl⟩
  | cons c r ih =>
    obtain ⟨w, ws, h⟩ := ih
    by_cases hc : c = Char.ofNat 32
    · subst hc; exact ⟨_, _, rfl⟩
    · refine ⟨c :: w, ws, ?_⟩
      rw [wordsSigns.eq_def]
      split
      · contradiction
      · rename_i h1; injection h1 with h1 h2; exact absurd h1 hc
      · rename_i c' r' _ h1
        injection h1 with h1 h2
        subst h1 h2
        rw [h]
theorem wordsAcc_eq (l : List Char) : ∀ acc w ws, wordsSigns l = w :: ws → wordsAcc acc l = (acc.reverse ++ w) :: ws := by
  induction l with
  | nil =>
    intro acc w ws h
    simp only [wordsSigns, List.cons.injEq] at h
    obtain ⟨rfl, rfl⟩ := h
    simp [wordsAcc]
  | cons c r ih =>
    intro acc w ws h
    obtain ⟨w1, ws1, h1⟩ := wordsSigns_ne r
    by_cases hc : c = Char.ofNat 32
    · subst hc
      rw [words_blank, h1] at h
      injection h with ha hb
      subst ha hb
      unfold wordsAcc
      rw [if_pos rfl, ih [] w1 ws1 h1]
      simp
    · have h2 : wordsSigns (c :: r) = (c :: w1) :: ws1 := by
        rw [wordsSigns.eq_def]
        split
        · contradiction
        · rename_i h3; injection h3 with h3 h4; exact absurd h3 hc
        · rename_i c' r' _ h3
          injection h3 with h3 h4
          subst h3 h4
          rw [h1]
      rw [h2] at h
      injection h with ha hb
      subst ha hb
      unfold wordsAcc
      rw [if_neg hc, ih (c :: acc) w1 ws1 h1]
      simp
theorem words_eq (l : List Char) : wordsSigns l = wordsAcc [] l := by
  obtain ⟨w, ws, h⟩ := wordsSigns_ne l
  rw [wordsAcc_eq l [] w ws h, h]
  rfl

def ch (l : List Nat) : List Char := l.map Char.ofNat
/-- The head's first letters: harness, a sum, cut, at. -/
def headCodes : List Nat := [
  104, 97, 114, 110, 101, 115, 115, 32, 50, 56, 55, 54, 55, 52, 54, 102, 51, 48, 51, 98, 52, 57, 56, 55, 49, 55, 49, 101, 54, 56, 100, 52, 97, 57, 50, 48, 99, 53, 100, 54,
  57, 51, 98, 51, 53, 102, 99, 54, 51, 101, 49, 49, 49, 102, 97, 49, 54, 55, 52, 98, 50, 55, 49, 52, 98, 50, 55, 97, 99, 101, 55, 100, 32, 99, 117, 116, 32, 97, 116, 32]
def restCodes : List Nat := [
  112, 108, 117, 103, 105, 110, 104, 111, 115, 116, 47, 112, 108, 117, 103, 105, 110, 104, 111, 115, 116, 108, 97, 119, 51, 48, 46, 72, 105, 115, 116, 111, 114, 121, 83, 108, 111, 116, 115, 32,
  112, 108, 117, 103, 105, 110, 104, 111, 115, 116, 47, 112, 108, 117, 103, 105, 110, 104, 111, 115, 116, 108, 97, 119, 51, 48, 46, 72, 105, 115, 116, 111, 114, 121, 83, 107, 105, 112, 115, 32,
  112, 108, 117, 103, 105, 110, 104, 111, 115, 116, 47, 112, 108, 117, 103, 105, 110, 104, 111, 115, 116, 108, 97, 119, 51, 48, 46, 72, 105, 115, 116, 111, 114, 121, 84, 101, 108, 108, 115]
set_option maxRecDepth 100000 in
theorem init_eq : Tryz.prog.initOrder = String.ofList (ch (headCodes ++ restCodes)) := by kernel_rfl
set_option maxRecDepth 100000 in
theorem head_of (t : List Char) : behindMainWord (wordsSigns (ch headCodes ++ t)) = ch [99, 117, 116] :: ch [97, 116] :: wordsAcc [] t := by
  rw [words_eq]
  kernel_rfl
theorem head_prog : ∃ rest, behindMainWord (wordsSigns Tryz.prog.initOrder.toList) = ch [99, 117, 116] :: ch [97, 116] :: rest := by
  refine ⟨wordsAcc [] (ch restCodes), ?_⟩
  rw [init_eq, String.toList_ofList, ← head_of]
  unfold ch
  rw [List.map_append]
theorem lifts_of {P : Program} {rest : List (List Char)} (h : behindMainWord (wordsSigns P.initOrder.toList) = ch [99, 117, 116] :: ch [97, 116] :: rest) : P.liftsFinal = false := by
  unfold Program.liftsFinal Program.headLifts
  rw [h]
  kernel_rfl
theorem make_of {P : Program} {rest : List (List Char)} (h : behindMainWord (wordsSigns P.initOrder.toList) = ch [99, 117, 116] :: ch [97, 116] :: rest) : P.make = some .cut := by
  unfold Program.make Program.headLifts
  rw [h]
  kernel_rfl
theorem fact_lifts : Tryz.prog.liftsFinal = false := let ⟨_, h⟩ := head_prog; lifts_of h
theorem fact_make : Tryz.prog.make = some .cut := let ⟨_, h⟩ := head_prog; make_of h
theorem fact_laid : laidOutB Tryz.prog = true := by kernel_rfl
theorem fact_rowed : mapsRowed Tryz.prog = true := by kernel_rfl
theorem fact_stops : Tryz.prog.stops = [] := by kernel_rfl
theorem fact_knobs : Tryz.prog.stopKnobs = [] := by kernel_rfl
theorem fact_plain : Tryz.prog.plainKeys = true := by kernel_rfl
theorem fact_heard : Tryz.prog.stopsHeard = true := by kernel_rfl
theorem enter_of {P : Program} {rest : List (List Char)} (h : behindMainWord (wordsSigns P.initOrder.toList) = ch [99, 117, 116] :: ch [97, 116] :: rest) (h1 : P.laysLater = false) (h2 : P.bearsReflect = false) (h3 : P.doorFits [] = true) : P.mayEnter = true := by
  have e : stripLifts liftWords (ch [99, 117, 116] :: ch [97, 116] :: rest) = ([], ch [99, 117, 116] :: ch [97, 116] :: rest) := by kernel_rfl
  unfold Program.mayEnter
  rw [h]
  show ((_ || _ || (((stripLifts liftWords (ch [99, 117, 116] :: ch [97, 116] :: rest)).2.head? == some (String.toList _)) && _ && _ && _ && P.doorFits (stripLifts liftWords (ch [99, 117, 116] :: ch [97, 116] :: rest)).1)) = true)
  rw [e, h1, h2, h3]
  kernel_rfl
theorem fact_later : Tryz.prog.laysLater = false := by kernel_rfl
theorem fact_reflect : Tryz.prog.bearsReflect = false := by kernel_rfl
theorem fact_door : Tryz.prog.doorFits [] = true := by kernel_rfl
theorem fact_enter : Tryz.prog.mayEnter = true := let ⟨_, h⟩ := head_prog; enter_of h fact_later fact_reflect fact_door
theorem fact_knob : ownKnob Tryz.prog.godebug = none := by kernel_rfl

/-- The row's closed facts out of the program's, and those that are the row's own. -/
theorem joined_mk {P : Program} {f : FuncId} {fn : Func} {s : ChangeSpec} {c : OpenClaim}
    (h1 : laidOutB P = true) (h2 : mapsRowed P = true) (h3 : P.stops = []) (h4 : P.stopKnobs = []) (h5 : P.plainKeys = true) (h6 : P.stopsHeard = true) (h7 : P.mayEnter = true) (h8 : P.liftsFinal = false) (h9 : P.make = some .cut)
    (c1 : c.plainKeys = true) (c2 : c.lifted = false) (c3 : c.make = .cut)
    (a1 : c.wf (OpenSpec.ofChange s) = true) (a2 : fn.params.all (P.readableRec ·) = true) (a3 : namedTie P c.named s.vars = true) (a4 : c.stops = []) (a5 : c.knobs = [])
    (a6 : c.inPlace = P.inPlace f) (a7 : c.unfollowed = P.unfollowed f) (a8 : c.recurses = P.recurses f) (a9 : c.named = P.varsNamed f)
    (b1 : (c.maps == (fn.params.toList ++ s.plain.varTypes P).any (P.mapsRec ·)) = true) (b2 : (c.ifaces == (fn.params.toList ++ s.plain.varTypes P).any (P.ifacesRec ·)) = true) (b3 : (c.mapsOut == P.mapsAmong fn.resultTypes.toList) = true)
    (b4 : (c.loops == (fn.params.toList ++ s.plain.varTypes P).any (P.loopsFrom ·)) = true) (b5 : (c.wideKeys == (fn.params.toList ++ s.plain.varTypes P ++ fn.resultTypes.toList).any (P.wideKeysFrom ·)) = true)
    (b6 : s.vars.all (P.varReadable ·) = true) (b7 : fn.resultTypes.all (fun t => P.readableRec t && decide (t < P.types.size)) = true) (b8 : (c.ifacesOut == fn.resultTypes.toList.any (P.ifacesRec ·)) = true) (b9 : (c.loopsOut == fn.resultTypes.toList.any (P.loopsFrom ·)) = true)
    (d1 : c.shortTexts.isNone = true) (d2 : (c.kinds == (if c.domain.isEmpty then [] else fn.params.toList.map fun t => match P.underlying t with | some (.int k) => some k | _ => none)) = true) (d3 : (c.pinned == c.pinnedBy) = true)
    (d4 : (c.veiled == (fn.params.toList ++ s.plain.varTypes P ++ fn.resultTypes.toList).any (P.veiledRec ·)) = true) (d5 : c.veiledFits P fn.params.toList (fn.params.toList ++ s.plain.varTypes P ++ fn.resultTypes.toList) = true) :
    joinedFacts P f fn s c = true := by
  unfold joinedFacts
  rw [h1, h2, h3, h4, h5, h6, h7, h8, h9, c1, c2, c3, a1, a2, a3, a4, a5, ← a6, ← a7, ← a8, ← a9, b1, b2, b3, b4, b5, b6, b7, b8, b9, d1]
  refine Bool.and_eq_true_iff.2 ⟨Bool.and_eq_true_iff.2 ⟨Bool.and_eq_true_iff.2 ⟨Bool.and_eq_true_iff.2 ⟨?_, d2⟩, d3⟩, d4⟩, d5⟩
  simp
end Go.Proofs.YtnkgiaimcpbhkaaGreat
