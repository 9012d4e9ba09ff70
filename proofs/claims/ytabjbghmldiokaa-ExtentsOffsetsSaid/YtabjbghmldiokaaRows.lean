/-
  No cell of these rows narrows 'for every input' (looked for: loops, veiled, ifaces, maps, wideKeys, modest, calm, conditions, laid).
  DERIVED. THE GIVEN ROWS OF THIS SEAT. 9 by the template 'for every input the law returns true; each argument reads behind the call as it read before'; 0 by the template 'total and deterministic' (their statements: YtabjbghmldiokaaTotals.lean).
  GIVEN WITH THE SEED: the statements are not yours to turn. If you find one false, say at which input.
  Laid BY PROGRAM, IN A SANDBOX (cutbox-rows.mjs): the forced cells as the released guide's own fill.sh prints them over the translation 9cbd6a0fc8c4e872… (all of the seat's roots in one cut). By AI agents, Wed Nov 11 2026. No macro, syntax, notation, axiom, sorry.
-/
import Derived.Test.YtabjbghmldiokaaChecked
import GoSem.Claim
import GoSem.ClaimJoined
import GoSem.ClaimMapViews
import Derived.JoinedTies
import Derived.KernelRfl
namespace Go.Proofs.Ytabjbghmldiokaa
/- THE CELL 'sum', in the pinned program and in every row, IS THE sha256 OF THE DUMP (.gsa) THAT YtabjbghmldiokaaProg.lean LOADS. Nothing in Lean hashes anything: it is a label: what it is worth is what the hold of that sum in a sandbox is worth. -/
noncomputable def Try.pinned : Pinned := { name := "ytabjbghmldiokaa", sum := "9cbd6a0fc8c4e8726eaf174ed10e4366a03755b0b45e1a8db32db7c9762ca559", checked := Try.checked }
namespace Rows
def none {H : Type} : Left H := { results := [], args := [] }

/-- 'pluginhostlaw4.ExtentsInsert': WHATEVER THE INPUT: true; the input reads as it did. -/
def extentsInsertSpec : ChangeSpec := { name := "extentsInsert", fn := fun _ => fun
  | [d1, d2, d3, d4, d5] => { results := [.lit (.bool true)], args := [d1, d2, d3, d4, d5] }
  | _ => none }
def extentsInsertRow : OpenClaim := { program := "ytabjbghmldiokaa", sum := "9cbd6a0fc8c4e8726eaf174ed10e4366a03755b0b45e1a8db32db7c9762ca559", func := "pluginhost/pluginhostlaw4.ExtentsInsert", spec := "extentsInsert", unfollowed := true, recurses := true, apart := false }
def ExtentsInsertSaid : Prop := extentsInsertRow.holds Try.pinned (OpenSpec.ofChange extentsInsertSpec)

/-- ITS FALSE NEIGHBOUR: 'it returns false'. Refute it at one input. -/
def extentsInsertWrong : ChangeSpec := { name := "extentsInsert", fn := fun _ => fun
  | [d1, d2, d3, d4, d5] => { results := [.lit (.bool false)], args := [d1, d2, d3, d4, d5] }
  | _ => none }
def ExtentsInsertWrongFalsely : Prop := extentsInsertRow.holds Try.pinned (OpenSpec.ofChange extentsInsertWrong)

/-- 'pluginhostlaw4.ExtentsCommute': WHATEVER THE INPUT: true; the input reads as it did. -/
def extentsCommuteSpec : ChangeSpec := { name := "extentsCommute", fn := fun _ => fun
  | [d1, d2, d3, d4, d5] => { results := [.lit (.bool true)], args := [d1, d2, d3, d4, d5] }
  | _ => none }
def extentsCommuteRow : OpenClaim := { program := "ytabjbghmldiokaa", sum := "9cbd6a0fc8c4e8726eaf174ed10e4366a03755b0b45e1a8db32db7c9762ca559", func := "pluginhost/pluginhostlaw4.ExtentsCommute", spec := "extentsCommute", unfollowed := true, recurses := true, apart := false }
def ExtentsCommuteSaid : Prop := extentsCommuteRow.holds Try.pinned (OpenSpec.ofChange extentsCommuteSpec)

/-- ITS FALSE NEIGHBOUR: 'it returns false'. Refute it at one input. -/
def extentsCommuteWrong : ChangeSpec := { name := "extentsCommute", fn := fun _ => fun
  | [d1, d2, d3, d4, d5] => { results := [.lit (.bool false)], args := [d1, d2, d3, d4, d5] }
  | _ => none }
def ExtentsCommuteWrongFalsely : Prop := extentsCommuteRow.holds Try.pinned (OpenSpec.ofChange extentsCommuteWrong)

/-- 'pluginhostlaw4.ExtentsRaw': WHATEVER THE INPUT: true; the input reads as it did. -/
def extentsRawSpec : ChangeSpec := { name := "extentsRaw", fn := fun _ => fun
  | [d1, d2, d3, d4] => { results := [.lit (.bool true)], args := [d1, d2, d3, d4] }
  | _ => none }
def extentsRawRow : OpenClaim := { program := "ytabjbghmldiokaa", sum := "9cbd6a0fc8c4e8726eaf174ed10e4366a03755b0b45e1a8db32db7c9762ca559", func := "pluginhost/pluginhostlaw4.ExtentsRaw", spec := "extentsRaw", unfollowed := true, recurses := true, apart := false }
def ExtentsRawSaid : Prop := extentsRawRow.holds Try.pinned (OpenSpec.ofChange extentsRawSpec)

/-- ITS FALSE NEIGHBOUR: 'it returns false'. Refute it at one input. -/
def extentsRawWrong : ChangeSpec := { name := "extentsRaw", fn := fun _ => fun
  | [d1, d2, d3, d4] => { results := [.lit (.bool false)], args := [d1, d2, d3, d4] }
  | _ => none }
def ExtentsRawWrongFalsely : Prop := extentsRawRow.holds Try.pinned (OpenSpec.ofChange extentsRawWrong)

/-- 'pluginhostlaw4.ExtentsComplement': WHATEVER THE INPUT: true; the input reads as it did. -/
def extentsComplementSpec : ChangeSpec := { name := "extentsComplement", fn := fun _ => fun
  | [d1, d2, d3, d4] => { results := [.lit (.bool true)], args := [d1, d2, d3, d4] }
  | _ => none }
def extentsComplementRow : OpenClaim := { program := "ytabjbghmldiokaa", sum := "9cbd6a0fc8c4e8726eaf174ed10e4366a03755b0b45e1a8db32db7c9762ca559", func := "pluginhost/pluginhostlaw4.ExtentsComplement", spec := "extentsComplement", unfollowed := true, recurses := true, apart := false }
def ExtentsComplementSaid : Prop := extentsComplementRow.holds Try.pinned (OpenSpec.ofChange extentsComplementSpec)

/-- ITS FALSE NEIGHBOUR: 'it returns false'. Refute it at one input. -/
def extentsComplementWrong : ChangeSpec := { name := "extentsComplement", fn := fun _ => fun
  | [d1, d2, d3, d4] => { results := [.lit (.bool false)], args := [d1, d2, d3, d4] }
  | _ => none }
def ExtentsComplementWrongFalsely : Prop := extentsComplementRow.holds Try.pinned (OpenSpec.ofChange extentsComplementWrong)

/-- 'pluginhostlaw4.ExtentsOffsets': WHATEVER THE INPUT: true; the input reads as it did. -/
def extentsOffsetsSpec : ChangeSpec := { name := "extentsOffsets", fn := fun _ => fun
  | [d1, d2, d3] => { results := [.lit (.bool true)], args := [d1, d2, d3] }
  | _ => none }
def extentsOffsetsRow : OpenClaim := { program := "ytabjbghmldiokaa", sum := "9cbd6a0fc8c4e8726eaf174ed10e4366a03755b0b45e1a8db32db7c9762ca559", func := "pluginhost/pluginhostlaw4.ExtentsOffsets", spec := "extentsOffsets", unfollowed := true, recurses := true, apart := false }
def ExtentsOffsetsSaid : Prop := extentsOffsetsRow.holds Try.pinned (OpenSpec.ofChange extentsOffsetsSpec)

/-- ITS FALSE NEIGHBOUR: 'it returns false'. Refute it at one input. -/
def extentsOffsetsWrong : ChangeSpec := { name := "extentsOffsets", fn := fun _ => fun
  | [d1, d2, d3] => { results := [.lit (.bool false)], args := [d1, d2, d3] }
  | _ => none }
def ExtentsOffsetsWrongFalsely : Prop := extentsOffsetsRow.holds Try.pinned (OpenSpec.ofChange extentsOffsetsWrong)

/-- 'pluginhostlaw4.ExtentsRemove': WHATEVER THE INPUT: true; the input reads as it did. -/
def extentsRemoveSpec : ChangeSpec := { name := "extentsRemove", fn := fun _ => fun
  | [d1, d2, d3, d4, d5, d6] => { results := [.lit (.bool true)], args := [d1, d2, d3, d4, d5, d6] }
  | _ => none }
def extentsRemoveRow : OpenClaim := { program := "ytabjbghmldiokaa", sum := "9cbd6a0fc8c4e8726eaf174ed10e4366a03755b0b45e1a8db32db7c9762ca559", func := "pluginhost/pluginhostlaw4.ExtentsRemove", spec := "extentsRemove", unfollowed := true, recurses := true, apart := false }
def ExtentsRemoveSaid : Prop := extentsRemoveRow.holds Try.pinned (OpenSpec.ofChange extentsRemoveSpec)

/-- ITS FALSE NEIGHBOUR: 'it returns false'. Refute it at one input. -/
def extentsRemoveWrong : ChangeSpec := { name := "extentsRemove", fn := fun _ => fun
  | [d1, d2, d3, d4, d5, d6] => { results := [.lit (.bool false)], args := [d1, d2, d3, d4, d5, d6] }
  | _ => none }
def ExtentsRemoveWrongFalsely : Prop := extentsRemoveRow.holds Try.pinned (OpenSpec.ofChange extentsRemoveWrong)

/-- 'pluginhostlaw4.ExtentsTwice': WHATEVER THE INPUT: true; the input reads as it did. -/
def extentsTwiceSpec : ChangeSpec := { name := "extentsTwice", fn := fun _ => fun
  | [d1, d2] => { results := [.lit (.bool true)], args := [d1, d2] }
  | _ => none }
def extentsTwiceRow : OpenClaim := { program := "ytabjbghmldiokaa", sum := "9cbd6a0fc8c4e8726eaf174ed10e4366a03755b0b45e1a8db32db7c9762ca559", func := "pluginhost/pluginhostlaw4.ExtentsTwice", spec := "extentsTwice", unfollowed := true, recurses := true, apart := false }
def ExtentsTwiceSaid : Prop := extentsTwiceRow.holds Try.pinned (OpenSpec.ofChange extentsTwiceSpec)

/-- ITS FALSE NEIGHBOUR: 'it returns false'. Refute it at one input. -/
def extentsTwiceWrong : ChangeSpec := { name := "extentsTwice", fn := fun _ => fun
  | [d1, d2] => { results := [.lit (.bool false)], args := [d1, d2] }
  | _ => none }
def ExtentsTwiceWrongFalsely : Prop := extentsTwiceRow.holds Try.pinned (OpenSpec.ofChange extentsTwiceWrong)

/-- 'pluginhostlaw4.ExtentsBack': WHATEVER THE INPUT: true; the input reads as it did. -/
def extentsBackSpec : ChangeSpec := { name := "extentsBack", fn := fun _ => fun
  | [d1, d2, d3] => { results := [.lit (.bool true)], args := [d1, d2, d3] }
  | _ => none }
def extentsBackRow : OpenClaim := { program := "ytabjbghmldiokaa", sum := "9cbd6a0fc8c4e8726eaf174ed10e4366a03755b0b45e1a8db32db7c9762ca559", func := "pluginhost/pluginhostlaw4.ExtentsBack", spec := "extentsBack", unfollowed := true, recurses := true, apart := false }
def ExtentsBackSaid : Prop := extentsBackRow.holds Try.pinned (OpenSpec.ofChange extentsBackSpec)

/-- ITS FALSE NEIGHBOUR: 'it returns false'. Refute it at one input. -/
def extentsBackWrong : ChangeSpec := { name := "extentsBack", fn := fun _ => fun
  | [d1, d2, d3] => { results := [.lit (.bool false)], args := [d1, d2, d3] }
  | _ => none }
def ExtentsBackWrongFalsely : Prop := extentsBackRow.holds Try.pinned (OpenSpec.ofChange extentsBackWrong)

/-- 'pluginhostlaw4.ExtentsBits': WHATEVER THE INPUT: true; the input reads as it did. -/
def extentsBitsSpec : ChangeSpec := { name := "extentsBits", fn := fun _ => fun
  | [d1, d2, d3, d4] => { results := [.lit (.bool true)], args := [d1, d2, d3, d4] }
  | _ => none }
def extentsBitsRow : OpenClaim := { program := "ytabjbghmldiokaa", sum := "9cbd6a0fc8c4e8726eaf174ed10e4366a03755b0b45e1a8db32db7c9762ca559", func := "pluginhost/pluginhostlaw4.ExtentsBits", spec := "extentsBits", unfollowed := true, recurses := true, apart := false }
def ExtentsBitsSaid : Prop := extentsBitsRow.holds Try.pinned (OpenSpec.ofChange extentsBitsSpec)

/-- ITS FALSE NEIGHBOUR: 'it returns false'. Refute it at one input. -/
def extentsBitsWrong : ChangeSpec := { name := "extentsBits", fn := fun _ => fun
  | [d1, d2, d3, d4] => { results := [.lit (.bool false)], args := [d1, d2, d3, d4] }
  | _ => none }
def ExtentsBitsWrongFalsely : Prop := extentsBitsRow.holds Try.pinned (OpenSpec.ofChange extentsBitsWrong)

/- THE SECOND FORM. 'bulk': how many values and letters a reading holds, each counted each time it is reached (what is shared counts as often as it is met; a slice's spare places count too). A statement '..UptoSaid' is the law's where the arguments, and the package variables that the reading takes, are together of bulk at most 1048576: NARROWER than '..Said'. Prove '..Said' where nothing that the law and all that it calls make is longer than what came in: it says more and counts as full. Else prove '..UptoSaid'. A law counts once. -/
mutual
def uptoBulk {H : Type} : DataW H → Nat
  | .lit (.string bytes) => bytes.length + 1
  | .lit _ => 1
  | .nil => 1
  | .ptr d => uptoBulk d + 1
  | .slice elems spare => uptoBulkAll elems + uptoBulkAll spare + 1
  | .agg parts => uptoBulkAll parts + 1
  | .iface _ d => uptoBulk d + 1
  | .map entries => uptoBulkEntries entries + 1
  | .held _ => 1
def uptoBulkAll {H : Type} : List (DataW H) → Nat
  | [] => 0
  | d :: r => uptoBulk d + uptoBulkAll r
def uptoBulkEntries {H : Type} : List (Lit × DataW H) → Nat
  | [] => 0
  | x :: r => uptoBulkEntry x + uptoBulkEntries r
def uptoBulkEntry {H : Type} : Lit × DataW H → Nat
  | (.string bytes, d) => bytes.length + uptoBulk d + 1
  | (_, d) => uptoBulk d + 1
 end
def uptoSmall : (H : Type) → List (DataW H) → Bool := fun _ ds => decide (uptoBulkAll ds ≤ 1048576)
def OpenSpec.upto (s : _root_.Go.ChangeSpec) : _root_.Go.OpenSpec := { _root_.Go.OpenSpec.ofChange s with cond := some uptoSmall }

/-- 'pluginhostlaw4.ExtentsInsert', WHERE WHAT IT READS IS OF BULK AT MOST 1048576: true; the input reads as it did. -/
def extentsInsertUptoRow : OpenClaim := { program := "ytabjbghmldiokaa", sum := "9cbd6a0fc8c4e8726eaf174ed10e4366a03755b0b45e1a8db32db7c9762ca559", func := "pluginhost/pluginhostlaw4.ExtentsInsert", spec := "extentsInsert", unfollowed := true, recurses := true, apart := false, narrowed := true }
def ExtentsInsertUptoSaid : Prop := extentsInsertUptoRow.holds Try.pinned (OpenSpec.upto extentsInsertSpec)

/-- 'pluginhostlaw4.ExtentsCommute', WHERE WHAT IT READS IS OF BULK AT MOST 1048576: true; the input reads as it did. -/
def extentsCommuteUptoRow : OpenClaim := { program := "ytabjbghmldiokaa", sum := "9cbd6a0fc8c4e8726eaf174ed10e4366a03755b0b45e1a8db32db7c9762ca559", func := "pluginhost/pluginhostlaw4.ExtentsCommute", spec := "extentsCommute", unfollowed := true, recurses := true, apart := false, narrowed := true }
def ExtentsCommuteUptoSaid : Prop := extentsCommuteUptoRow.holds Try.pinned (OpenSpec.upto extentsCommuteSpec)

/-- 'pluginhostlaw4.ExtentsRaw', WHERE WHAT IT READS IS OF BULK AT MOST 1048576: true; the input reads as it did. -/
def extentsRawUptoRow : OpenClaim := { program := "ytabjbghmldiokaa", sum := "9cbd6a0fc8c4e8726eaf174ed10e4366a03755b0b45e1a8db32db7c9762ca559", func := "pluginhost/pluginhostlaw4.ExtentsRaw", spec := "extentsRaw", unfollowed := true, recurses := true, apart := false, narrowed := true }
def ExtentsRawUptoSaid : Prop := extentsRawUptoRow.holds Try.pinned (OpenSpec.upto extentsRawSpec)

/-- 'pluginhostlaw4.ExtentsComplement', WHERE WHAT IT READS IS OF BULK AT MOST 1048576: true; the input reads as it did. -/
def extentsComplementUptoRow : OpenClaim := { program := "ytabjbghmldiokaa", sum := "9cbd6a0fc8c4e8726eaf174ed10e4366a03755b0b45e1a8db32db7c9762ca559", func := "pluginhost/pluginhostlaw4.ExtentsComplement", spec := "extentsComplement", unfollowed := true, recurses := true, apart := false, narrowed := true }
def ExtentsComplementUptoSaid : Prop := extentsComplementUptoRow.holds Try.pinned (OpenSpec.upto extentsComplementSpec)

/-- 'pluginhostlaw4.ExtentsOffsets', WHERE WHAT IT READS IS OF BULK AT MOST 1048576: true; the input reads as it did. -/
def extentsOffsetsUptoRow : OpenClaim := { program := "ytabjbghmldiokaa", sum := "9cbd6a0fc8c4e8726eaf174ed10e4366a03755b0b45e1a8db32db7c9762ca559", func := "pluginhost/pluginhostlaw4.ExtentsOffsets", spec := "extentsOffsets", unfollowed := true, recurses := true, apart := false, narrowed := true }
def ExtentsOffsetsUptoSaid : Prop := extentsOffsetsUptoRow.holds Try.pinned (OpenSpec.upto extentsOffsetsSpec)

/-- 'pluginhostlaw4.ExtentsRemove', WHERE WHAT IT READS IS OF BULK AT MOST 1048576: true; the input reads as it did. -/
def extentsRemoveUptoRow : OpenClaim := { program := "ytabjbghmldiokaa", sum := "9cbd6a0fc8c4e8726eaf174ed10e4366a03755b0b45e1a8db32db7c9762ca559", func := "pluginhost/pluginhostlaw4.ExtentsRemove", spec := "extentsRemove", unfollowed := true, recurses := true, apart := false, narrowed := true }
def ExtentsRemoveUptoSaid : Prop := extentsRemoveUptoRow.holds Try.pinned (OpenSpec.upto extentsRemoveSpec)

/-- 'pluginhostlaw4.ExtentsTwice', WHERE WHAT IT READS IS OF BULK AT MOST 1048576: true; the input reads as it did. -/
def extentsTwiceUptoRow : OpenClaim := { program := "ytabjbghmldiokaa", sum := "9cbd6a0fc8c4e8726eaf174ed10e4366a03755b0b45e1a8db32db7c9762ca559", func := "pluginhost/pluginhostlaw4.ExtentsTwice", spec := "extentsTwice", unfollowed := true, recurses := true, apart := false, narrowed := true }
def ExtentsTwiceUptoSaid : Prop := extentsTwiceUptoRow.holds Try.pinned (OpenSpec.upto extentsTwiceSpec)

/-- 'pluginhostlaw4.ExtentsBack', WHERE WHAT IT READS IS OF BULK AT MOST 1048576: true; the input reads as it did. -/
def extentsBackUptoRow : OpenClaim := { program := "ytabjbghmldiokaa", sum := "9cbd6a0fc8c4e8726eaf174ed10e4366a03755b0b45e1a8db32db7c9762ca559", func := "pluginhost/pluginhostlaw4.ExtentsBack", spec := "extentsBack", unfollowed := true, recurses := true, apart := false, narrowed := true }
def ExtentsBackUptoSaid : Prop := extentsBackUptoRow.holds Try.pinned (OpenSpec.upto extentsBackSpec)

/-- 'pluginhostlaw4.ExtentsBits', WHERE WHAT IT READS IS OF BULK AT MOST 1048576: true; the input reads as it did. -/
def extentsBitsUptoRow : OpenClaim := { program := "ytabjbghmldiokaa", sum := "9cbd6a0fc8c4e8726eaf174ed10e4366a03755b0b45e1a8db32db7c9762ca559", func := "pluginhost/pluginhostlaw4.ExtentsBits", spec := "extentsBits", unfollowed := true, recurses := true, apart := false, narrowed := true }
def ExtentsBitsUptoSaid : Prop := extentsBitsUptoRow.holds Try.pinned (OpenSpec.upto extentsBitsSpec)

end Rows
end Go.Proofs.Ytabjbghmldiokaa
