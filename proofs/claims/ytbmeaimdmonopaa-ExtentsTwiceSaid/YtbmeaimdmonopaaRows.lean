/-
  No cell of these rows narrows 'for every input' (looked for: loops, veiled, ifaces, maps, wideKeys, modest, calm, conditions, laid).
  DERIVED. THE GIVEN ROWS OF THIS SEAT. 26 by the template 'for every input the law returns true; each argument reads behind the call as it read before'; 0 by the template 'total and deterministic' (their statements: YtbmeaimdmonopaaTotals.lean).
  GIVEN WITH THE SEED: the statements are not yours to turn. If you find one false, say at which input.
  Laid BY PROGRAM, IN A SANDBOX (cutbox-rows.mjs): the forced cells as the released guide's own fill.sh prints them over the translation fe2cee2755dfd050… (all of the seat's roots in one cut). By AI agents, Wed Nov 11 2026. No macro, syntax, notation, axiom, sorry.
-/
import Derived.Test.YtbmeaimdmonopaaChecked
import GoSem.Claim
import GoSem.ClaimJoined
import GoSem.ClaimMapViews
import Derived.JoinedTies
import Derived.KernelRfl
namespace Go.Proofs.Ytbmeaimdmonopaa
/- THE CELL 'sum', in the pinned program and in every row, IS THE sha256 OF THE DUMP (.gsa) THAT YtbmeaimdmonopaaProg.lean LOADS. Nothing in Lean hashes anything: it is a label: what it is worth is what the hold of that sum in a sandbox is worth. -/
noncomputable def Try.pinned : Pinned := { name := "ytbmeaimdmonopaa", sum := "fe2cee2755dfd05014abce8d76b41ef04d74c7030c98d67a413e2c08732f24c4", checked := Try.checked }
namespace Rows
def none {H : Type} : Left H := { results := [], args := [] }

/-- 'pluginhostlaw5.SizeclassSizes': WHATEVER THE INPUT: true; the input reads as it did. -/
def sizeclassSizesSpec : ChangeSpec := { name := "sizeclassSizes", fn := fun _ => fun
  | [d] => { results := [.lit (.bool true)], args := [d] }
  | _ => none }
def sizeclassSizesRow : OpenClaim := { program := "ytbmeaimdmonopaa", sum := "fe2cee2755dfd05014abce8d76b41ef04d74c7030c98d67a413e2c08732f24c4", func := "pluginhost/pluginhostlaw5.SizeclassSizes", spec := "sizeclassSizes", unfollowed := true, recurses := true, apart := false }
def SizeclassSizesSaid : Prop := sizeclassSizesRow.holds Try.pinned (OpenSpec.ofChange sizeclassSizesSpec)

/-- ITS FALSE NEIGHBOUR: 'it returns false'. Refute it at one input. -/
def sizeclassSizesWrong : ChangeSpec := { name := "sizeclassSizes", fn := fun _ => fun
  | [d] => { results := [.lit (.bool false)], args := [d] }
  | _ => none }
def SizeclassSizesWrongFalsely : Prop := sizeclassSizesRow.holds Try.pinned (OpenSpec.ofChange sizeclassSizesWrong)

/-- 'pluginhostlaw5.SizeclassLeast': WHATEVER THE INPUT: true; the input reads as it did. -/
def sizeclassLeastSpec : ChangeSpec := { name := "sizeclassLeast", fn := fun _ => fun
  | [d] => { results := [.lit (.bool true)], args := [d] }
  | _ => none }
def sizeclassLeastRow : OpenClaim := { program := "ytbmeaimdmonopaa", sum := "fe2cee2755dfd05014abce8d76b41ef04d74c7030c98d67a413e2c08732f24c4", func := "pluginhost/pluginhostlaw5.SizeclassLeast", spec := "sizeclassLeast", unfollowed := true, recurses := true, apart := false }
def SizeclassLeastSaid : Prop := sizeclassLeastRow.holds Try.pinned (OpenSpec.ofChange sizeclassLeastSpec)

/-- ITS FALSE NEIGHBOUR: 'it returns false'. Refute it at one input. -/
def sizeclassLeastWrong : ChangeSpec := { name := "sizeclassLeast", fn := fun _ => fun
  | [d] => { results := [.lit (.bool false)], args := [d] }
  | _ => none }
def SizeclassLeastWrongFalsely : Prop := sizeclassLeastRow.holds Try.pinned (OpenSpec.ofChange sizeclassLeastWrong)

/-- 'pluginhostlaw5.SizeclassRound': WHATEVER THE INPUT: true; the input reads as it did. -/
def sizeclassRoundSpec : ChangeSpec := { name := "sizeclassRound", fn := fun _ => fun
  | [d1, d2] => { results := [.lit (.bool true)], args := [d1, d2] }
  | _ => none }
def sizeclassRoundRow : OpenClaim := { program := "ytbmeaimdmonopaa", sum := "fe2cee2755dfd05014abce8d76b41ef04d74c7030c98d67a413e2c08732f24c4", func := "pluginhost/pluginhostlaw5.SizeclassRound", spec := "sizeclassRound", unfollowed := true, recurses := true, apart := false }
def SizeclassRoundSaid : Prop := sizeclassRoundRow.holds Try.pinned (OpenSpec.ofChange sizeclassRoundSpec)

/-- ITS FALSE NEIGHBOUR: 'it returns false'. Refute it at one input. -/
def sizeclassRoundWrong : ChangeSpec := { name := "sizeclassRound", fn := fun _ => fun
  | [d1, d2] => { results := [.lit (.bool false)], args := [d1, d2] }
  | _ => none }
def SizeclassRoundWrongFalsely : Prop := sizeclassRoundRow.holds Try.pinned (OpenSpec.ofChange sizeclassRoundWrong)

/-- 'pluginhostlaw5.SizeclassOrder': WHATEVER THE INPUT: true; the input reads as it did. -/
def sizeclassOrderSpec : ChangeSpec := { name := "sizeclassOrder", fn := fun _ => fun
  | [d1, d2] => { results := [.lit (.bool true)], args := [d1, d2] }
  | _ => none }
def sizeclassOrderRow : OpenClaim := { program := "ytbmeaimdmonopaa", sum := "fe2cee2755dfd05014abce8d76b41ef04d74c7030c98d67a413e2c08732f24c4", func := "pluginhost/pluginhostlaw5.SizeclassOrder", spec := "sizeclassOrder", unfollowed := true, recurses := true, apart := false }
def SizeclassOrderSaid : Prop := sizeclassOrderRow.holds Try.pinned (OpenSpec.ofChange sizeclassOrderSpec)

/-- ITS FALSE NEIGHBOUR: 'it returns false'. Refute it at one input. -/
def sizeclassOrderWrong : ChangeSpec := { name := "sizeclassOrder", fn := fun _ => fun
  | [d1, d2] => { results := [.lit (.bool false)], args := [d1, d2] }
  | _ => none }
def SizeclassOrderWrongFalsely : Prop := sizeclassOrderRow.holds Try.pinned (OpenSpec.ofChange sizeclassOrderWrong)

/-- 'pluginhostlaw4.ExtentsInsert': WHATEVER THE INPUT: true; the input reads as it did. -/
def extentsInsertSpec : ChangeSpec := { name := "extentsInsert", fn := fun _ => fun
  | [d1, d2, d3, d4, d5] => { results := [.lit (.bool true)], args := [d1, d2, d3, d4, d5] }
  | _ => none }
def extentsInsertRow : OpenClaim := { program := "ytbmeaimdmonopaa", sum := "fe2cee2755dfd05014abce8d76b41ef04d74c7030c98d67a413e2c08732f24c4", func := "pluginhost/pluginhostlaw4.ExtentsInsert", spec := "extentsInsert", unfollowed := true, recurses := true, apart := false }
def ExtentsInsertSaid : Prop := extentsInsertRow.holds Try.pinned (OpenSpec.ofChange extentsInsertSpec)

/-- ITS FALSE NEIGHBOUR: 'it returns false'. Refute it at one input. -/
def extentsInsertWrong : ChangeSpec := { name := "extentsInsert", fn := fun _ => fun
  | [d1, d2, d3, d4, d5] => { results := [.lit (.bool false)], args := [d1, d2, d3, d4, d5] }
  | _ => none }
def ExtentsInsertWrongFalsely : Prop := extentsInsertRow.holds Try.pinned (OpenSpec.ofChange extentsInsertWrong)

/-- 'pluginhostlaw4.ExtentsCommute': WHATEVER THE INPUT: true; the input reads as it did. -/
def extentsCommuteSpec : ChangeSpec := { name := "extentsCommute", fn := fun _ => fun
  | [d1, d2, d3, d4, d5] => { results := [.lit (.bool true)], args := [d1, d2, d3, d4, d5] }
  | _ => none }
def extentsCommuteRow : OpenClaim := { program := "ytbmeaimdmonopaa", sum := "fe2cee2755dfd05014abce8d76b41ef04d74c7030c98d67a413e2c08732f24c4", func := "pluginhost/pluginhostlaw4.ExtentsCommute", spec := "extentsCommute", unfollowed := true, recurses := true, apart := false }
def ExtentsCommuteSaid : Prop := extentsCommuteRow.holds Try.pinned (OpenSpec.ofChange extentsCommuteSpec)

/-- ITS FALSE NEIGHBOUR: 'it returns false'. Refute it at one input. -/
def extentsCommuteWrong : ChangeSpec := { name := "extentsCommute", fn := fun _ => fun
  | [d1, d2, d3, d4, d5] => { results := [.lit (.bool false)], args := [d1, d2, d3, d4, d5] }
  | _ => none }
def ExtentsCommuteWrongFalsely : Prop := extentsCommuteRow.holds Try.pinned (OpenSpec.ofChange extentsCommuteWrong)

/-- 'pluginhostlaw4.ExtentsRaw': WHATEVER THE INPUT: true; the input reads as it did. -/
def extentsRawSpec : ChangeSpec := { name := "extentsRaw", fn := fun _ => fun
  | [d1, d2, d3, d4] => { results := [.lit (.bool true)], args := [d1, d2, d3, d4] }
  | _ => none }
def extentsRawRow : OpenClaim := { program := "ytbmeaimdmonopaa", sum := "fe2cee2755dfd05014abce8d76b41ef04d74c7030c98d67a413e2c08732f24c4", func := "pluginhost/pluginhostlaw4.ExtentsRaw", spec := "extentsRaw", unfollowed := true, recurses := true, apart := false }
def ExtentsRawSaid : Prop := extentsRawRow.holds Try.pinned (OpenSpec.ofChange extentsRawSpec)

/-- ITS FALSE NEIGHBOUR: 'it returns false'. Refute it at one input. -/
def extentsRawWrong : ChangeSpec := { name := "extentsRaw", fn := fun _ => fun
  | [d1, d2, d3, d4] => { results := [.lit (.bool false)], args := [d1, d2, d3, d4] }
  | _ => none }
def ExtentsRawWrongFalsely : Prop := extentsRawRow.holds Try.pinned (OpenSpec.ofChange extentsRawWrong)

/-- 'pluginhostlaw4.ExtentsComplement': WHATEVER THE INPUT: true; the input reads as it did. -/
def extentsComplementSpec : ChangeSpec := { name := "extentsComplement", fn := fun _ => fun
  | [d1, d2, d3, d4] => { results := [.lit (.bool true)], args := [d1, d2, d3, d4] }
  | _ => none }
def extentsComplementRow : OpenClaim := { program := "ytbmeaimdmonopaa", sum := "fe2cee2755dfd05014abce8d76b41ef04d74c7030c98d67a413e2c08732f24c4", func := "pluginhost/pluginhostlaw4.ExtentsComplement", spec := "extentsComplement", unfollowed := true, recurses := true, apart := false }
def ExtentsComplementSaid : Prop := extentsComplementRow.holds Try.pinned (OpenSpec.ofChange extentsComplementSpec)

/-- ITS FALSE NEIGHBOUR: 'it returns false'. Refute it at one input. -/
def extentsComplementWrong : ChangeSpec := { name := "extentsComplement", fn := fun _ => fun
  | [d1, d2, d3, d4] => { results := [.lit (.bool false)], args := [d1, d2, d3, d4] }
  | _ => none }
def ExtentsComplementWrongFalsely : Prop := extentsComplementRow.holds Try.pinned (OpenSpec.ofChange extentsComplementWrong)

/-- 'pluginhostlaw4.ExtentsOffsets': WHATEVER THE INPUT: true; the input reads as it did. -/
def extentsOffsetsSpec : ChangeSpec := { name := "extentsOffsets", fn := fun _ => fun
  | [d1, d2, d3] => { results := [.lit (.bool true)], args := [d1, d2, d3] }
  | _ => none }
def extentsOffsetsRow : OpenClaim := { program := "ytbmeaimdmonopaa", sum := "fe2cee2755dfd05014abce8d76b41ef04d74c7030c98d67a413e2c08732f24c4", func := "pluginhost/pluginhostlaw4.ExtentsOffsets", spec := "extentsOffsets", unfollowed := true, recurses := true, apart := false }
def ExtentsOffsetsSaid : Prop := extentsOffsetsRow.holds Try.pinned (OpenSpec.ofChange extentsOffsetsSpec)

/-- ITS FALSE NEIGHBOUR: 'it returns false'. Refute it at one input. -/
def extentsOffsetsWrong : ChangeSpec := { name := "extentsOffsets", fn := fun _ => fun
  | [d1, d2, d3] => { results := [.lit (.bool false)], args := [d1, d2, d3] }
  | _ => none }
def ExtentsOffsetsWrongFalsely : Prop := extentsOffsetsRow.holds Try.pinned (OpenSpec.ofChange extentsOffsetsWrong)

/-- 'pluginhostlaw4.ExtentsRemove': WHATEVER THE INPUT: true; the input reads as it did. -/
def extentsRemoveSpec : ChangeSpec := { name := "extentsRemove", fn := fun _ => fun
  | [d1, d2, d3, d4, d5, d6] => { results := [.lit (.bool true)], args := [d1, d2, d3, d4, d5, d6] }
  | _ => none }
def extentsRemoveRow : OpenClaim := { program := "ytbmeaimdmonopaa", sum := "fe2cee2755dfd05014abce8d76b41ef04d74c7030c98d67a413e2c08732f24c4", func := "pluginhost/pluginhostlaw4.ExtentsRemove", spec := "extentsRemove", unfollowed := true, recurses := true, apart := false }
def ExtentsRemoveSaid : Prop := extentsRemoveRow.holds Try.pinned (OpenSpec.ofChange extentsRemoveSpec)

/-- ITS FALSE NEIGHBOUR: 'it returns false'. Refute it at one input. -/
def extentsRemoveWrong : ChangeSpec := { name := "extentsRemove", fn := fun _ => fun
  | [d1, d2, d3, d4, d5, d6] => { results := [.lit (.bool false)], args := [d1, d2, d3, d4, d5, d6] }
  | _ => none }
def ExtentsRemoveWrongFalsely : Prop := extentsRemoveRow.holds Try.pinned (OpenSpec.ofChange extentsRemoveWrong)

/-- 'pluginhostlaw4.ExtentsTwice': WHATEVER THE INPUT: true; the input reads as it did. -/
def extentsTwiceSpec : ChangeSpec := { name := "extentsTwice", fn := fun _ => fun
  | [d1, d2] => { results := [.lit (.bool true)], args := [d1, d2] }
  | _ => none }
def extentsTwiceRow : OpenClaim := { program := "ytbmeaimdmonopaa", sum := "fe2cee2755dfd05014abce8d76b41ef04d74c7030c98d67a413e2c08732f24c4", func := "pluginhost/pluginhostlaw4.ExtentsTwice", spec := "extentsTwice", unfollowed := true, recurses := true, apart := false }
def ExtentsTwiceSaid : Prop := extentsTwiceRow.holds Try.pinned (OpenSpec.ofChange extentsTwiceSpec)

/-- ITS FALSE NEIGHBOUR: 'it returns false'. Refute it at one input. -/
def extentsTwiceWrong : ChangeSpec := { name := "extentsTwice", fn := fun _ => fun
  | [d1, d2] => { results := [.lit (.bool false)], args := [d1, d2] }
  | _ => none }
def ExtentsTwiceWrongFalsely : Prop := extentsTwiceRow.holds Try.pinned (OpenSpec.ofChange extentsTwiceWrong)

/-- 'pluginhostlaw4.ExtentsBack': WHATEVER THE INPUT: true; the input reads as it did. -/
def extentsBackSpec : ChangeSpec := { name := "extentsBack", fn := fun _ => fun
  | [d1, d2, d3] => { results := [.lit (.bool true)], args := [d1, d2, d3] }
  | _ => none }
def extentsBackRow : OpenClaim := { program := "ytbmeaimdmonopaa", sum := "fe2cee2755dfd05014abce8d76b41ef04d74c7030c98d67a413e2c08732f24c4", func := "pluginhost/pluginhostlaw4.ExtentsBack", spec := "extentsBack", unfollowed := true, recurses := true, apart := false }
def ExtentsBackSaid : Prop := extentsBackRow.holds Try.pinned (OpenSpec.ofChange extentsBackSpec)

/-- ITS FALSE NEIGHBOUR: 'it returns false'. Refute it at one input. -/
def extentsBackWrong : ChangeSpec := { name := "extentsBack", fn := fun _ => fun
  | [d1, d2, d3] => { results := [.lit (.bool false)], args := [d1, d2, d3] }
  | _ => none }
def ExtentsBackWrongFalsely : Prop := extentsBackRow.holds Try.pinned (OpenSpec.ofChange extentsBackWrong)

/-- 'pluginhostlaw4.ExtentsBits': WHATEVER THE INPUT: true; the input reads as it did. -/
def extentsBitsSpec : ChangeSpec := { name := "extentsBits", fn := fun _ => fun
  | [d1, d2, d3, d4] => { results := [.lit (.bool true)], args := [d1, d2, d3, d4] }
  | _ => none }
def extentsBitsRow : OpenClaim := { program := "ytbmeaimdmonopaa", sum := "fe2cee2755dfd05014abce8d76b41ef04d74c7030c98d67a413e2c08732f24c4", func := "pluginhost/pluginhostlaw4.ExtentsBits", spec := "extentsBits", unfollowed := true, recurses := true, apart := false }
def ExtentsBitsSaid : Prop := extentsBitsRow.holds Try.pinned (OpenSpec.ofChange extentsBitsSpec)

/-- ITS FALSE NEIGHBOUR: 'it returns false'. Refute it at one input. -/
def extentsBitsWrong : ChangeSpec := { name := "extentsBits", fn := fun _ => fun
  | [d1, d2, d3, d4] => { results := [.lit (.bool false)], args := [d1, d2, d3, d4] }
  | _ => none }
def ExtentsBitsWrongFalsely : Prop := extentsBitsRow.holds Try.pinned (OpenSpec.ofChange extentsBitsWrong)

/-- 'pluginhostlaw6.AllocatorPlays': WHATEVER THE INPUT: true; the input reads as it did. -/
def allocatorPlaysSpec : ChangeSpec := { name := "allocatorPlays", fn := fun _ => fun
  | [d1, d2] => { results := [.lit (.bool true)], args := [d1, d2] }
  | _ => none }
def allocatorPlaysRow : OpenClaim := { program := "ytbmeaimdmonopaa", sum := "fe2cee2755dfd05014abce8d76b41ef04d74c7030c98d67a413e2c08732f24c4", func := "pluginhost/pluginhostlaw6.AllocatorPlays", spec := "allocatorPlays", unfollowed := true, recurses := true, apart := false }
def AllocatorPlaysSaid : Prop := allocatorPlaysRow.holds Try.pinned (OpenSpec.ofChange allocatorPlaysSpec)

/-- ITS FALSE NEIGHBOUR: 'it returns false'. Refute it at one input. -/
def allocatorPlaysWrong : ChangeSpec := { name := "allocatorPlays", fn := fun _ => fun
  | [d1, d2] => { results := [.lit (.bool false)], args := [d1, d2] }
  | _ => none }
def AllocatorPlaysWrongFalsely : Prop := allocatorPlaysRow.holds Try.pinned (OpenSpec.ofChange allocatorPlaysWrong)

/-- 'pluginhostlaw6.AllocatorNew': WHATEVER THE INPUT: true; the input reads as it did. -/
def allocatorNewSpec : ChangeSpec := { name := "allocatorNew", fn := fun _ => fun
  | [d1, d2, d3, d4] => { results := [.lit (.bool true)], args := [d1, d2, d3, d4] }
  | _ => none }
def allocatorNewRow : OpenClaim := { program := "ytbmeaimdmonopaa", sum := "fe2cee2755dfd05014abce8d76b41ef04d74c7030c98d67a413e2c08732f24c4", func := "pluginhost/pluginhostlaw6.AllocatorNew", spec := "allocatorNew", unfollowed := true, recurses := true, apart := false }
def AllocatorNewSaid : Prop := allocatorNewRow.holds Try.pinned (OpenSpec.ofChange allocatorNewSpec)

/-- ITS FALSE NEIGHBOUR: 'it returns false'. Refute it at one input. -/
def allocatorNewWrong : ChangeSpec := { name := "allocatorNew", fn := fun _ => fun
  | [d1, d2, d3, d4] => { results := [.lit (.bool false)], args := [d1, d2, d3, d4] }
  | _ => none }
def AllocatorNewWrongFalsely : Prop := allocatorNewRow.holds Try.pinned (OpenSpec.ofChange allocatorNewWrong)

/-- 'pluginhostlaw6.AllocatorParts': WHATEVER THE INPUT: true; the input reads as it did. -/
def allocatorPartsSpec : ChangeSpec := { name := "allocatorParts", fn := fun _ => fun
  | [d1, d2] => { results := [.lit (.bool true)], args := [d1, d2] }
  | _ => none }
def allocatorPartsRow : OpenClaim := { program := "ytbmeaimdmonopaa", sum := "fe2cee2755dfd05014abce8d76b41ef04d74c7030c98d67a413e2c08732f24c4", func := "pluginhost/pluginhostlaw6.AllocatorParts", spec := "allocatorParts", unfollowed := true, recurses := true, apart := false }
def AllocatorPartsSaid : Prop := allocatorPartsRow.holds Try.pinned (OpenSpec.ofChange allocatorPartsSpec)

/-- ITS FALSE NEIGHBOUR: 'it returns false'. Refute it at one input. -/
def allocatorPartsWrong : ChangeSpec := { name := "allocatorParts", fn := fun _ => fun
  | [d1, d2] => { results := [.lit (.bool false)], args := [d1, d2] }
  | _ => none }
def AllocatorPartsWrongFalsely : Prop := allocatorPartsRow.holds Try.pinned (OpenSpec.ofChange allocatorPartsWrong)

/-- 'pluginhostlaw6.AllocatorDrains': WHATEVER THE INPUT: true; the input reads as it did. -/
def allocatorDrainsSpec : ChangeSpec := { name := "allocatorDrains", fn := fun _ => fun
  | [d1, d2, d3] => { results := [.lit (.bool true)], args := [d1, d2, d3] }
  | _ => none }
def allocatorDrainsRow : OpenClaim := { program := "ytbmeaimdmonopaa", sum := "fe2cee2755dfd05014abce8d76b41ef04d74c7030c98d67a413e2c08732f24c4", func := "pluginhost/pluginhostlaw6.AllocatorDrains", spec := "allocatorDrains", unfollowed := true, recurses := true, apart := false }
def AllocatorDrainsSaid : Prop := allocatorDrainsRow.holds Try.pinned (OpenSpec.ofChange allocatorDrainsSpec)

/-- ITS FALSE NEIGHBOUR: 'it returns false'. Refute it at one input. -/
def allocatorDrainsWrong : ChangeSpec := { name := "allocatorDrains", fn := fun _ => fun
  | [d1, d2, d3] => { results := [.lit (.bool false)], args := [d1, d2, d3] }
  | _ => none }
def AllocatorDrainsWrongFalsely : Prop := allocatorDrainsRow.holds Try.pinned (OpenSpec.ofChange allocatorDrainsWrong)

/-- 'pluginhostlaw6.AllocatorUndo': WHATEVER THE INPUT: true; the input reads as it did. -/
def allocatorUndoSpec : ChangeSpec := { name := "allocatorUndo", fn := fun _ => fun
  | [d1, d2, d3] => { results := [.lit (.bool true)], args := [d1, d2, d3] }
  | _ => none }
def allocatorUndoRow : OpenClaim := { program := "ytbmeaimdmonopaa", sum := "fe2cee2755dfd05014abce8d76b41ef04d74c7030c98d67a413e2c08732f24c4", func := "pluginhost/pluginhostlaw6.AllocatorUndo", spec := "allocatorUndo", unfollowed := true, recurses := true, apart := false }
def AllocatorUndoSaid : Prop := allocatorUndoRow.holds Try.pinned (OpenSpec.ofChange allocatorUndoSpec)

/-- ITS FALSE NEIGHBOUR: 'it returns false'. Refute it at one input. -/
def allocatorUndoWrong : ChangeSpec := { name := "allocatorUndo", fn := fun _ => fun
  | [d1, d2, d3] => { results := [.lit (.bool false)], args := [d1, d2, d3] }
  | _ => none }
def AllocatorUndoWrongFalsely : Prop := allocatorUndoRow.holds Try.pinned (OpenSpec.ofChange allocatorUndoWrong)

/-- 'pluginhostlaw6.AllocatorExact': WHATEVER THE INPUT: true; the input reads as it did. -/
def allocatorExactSpec : ChangeSpec := { name := "allocatorExact", fn := fun _ => fun
  | [d1, d2, d3] => { results := [.lit (.bool true)], args := [d1, d2, d3] }
  | _ => none }
def allocatorExactRow : OpenClaim := { program := "ytbmeaimdmonopaa", sum := "fe2cee2755dfd05014abce8d76b41ef04d74c7030c98d67a413e2c08732f24c4", func := "pluginhost/pluginhostlaw6.AllocatorExact", spec := "allocatorExact", unfollowed := true, recurses := true, apart := false }
def AllocatorExactSaid : Prop := allocatorExactRow.holds Try.pinned (OpenSpec.ofChange allocatorExactSpec)

/-- ITS FALSE NEIGHBOUR: 'it returns false'. Refute it at one input. -/
def allocatorExactWrong : ChangeSpec := { name := "allocatorExact", fn := fun _ => fun
  | [d1, d2, d3] => { results := [.lit (.bool false)], args := [d1, d2, d3] }
  | _ => none }
def AllocatorExactWrongFalsely : Prop := allocatorExactRow.holds Try.pinned (OpenSpec.ofChange allocatorExactWrong)

/-- 'pluginhostlaw7.ArenaLittle': WHATEVER THE INPUT: true; the input reads as it did. -/
def arenaLittleSpec : ChangeSpec := { name := "arenaLittle", fn := fun _ => fun
  | [d1, d2, d3, d4] => { results := [.lit (.bool true)], args := [d1, d2, d3, d4] }
  | _ => none }
def arenaLittleRow : OpenClaim := { program := "ytbmeaimdmonopaa", sum := "fe2cee2755dfd05014abce8d76b41ef04d74c7030c98d67a413e2c08732f24c4", func := "pluginhost/pluginhostlaw7.ArenaLittle", spec := "arenaLittle", unfollowed := true, recurses := true, apart := false }
def ArenaLittleSaid : Prop := arenaLittleRow.holds Try.pinned (OpenSpec.ofChange arenaLittleSpec)

/-- ITS FALSE NEIGHBOUR: 'it returns false'. Refute it at one input. -/
def arenaLittleWrong : ChangeSpec := { name := "arenaLittle", fn := fun _ => fun
  | [d1, d2, d3, d4] => { results := [.lit (.bool false)], args := [d1, d2, d3, d4] }
  | _ => none }
def ArenaLittleWrongFalsely : Prop := arenaLittleRow.holds Try.pinned (OpenSpec.ofChange arenaLittleWrong)

/-- 'pluginhostlaw7.ArenaMoves': WHATEVER THE INPUT: true; the input reads as it did. -/
def arenaMovesSpec : ChangeSpec := { name := "arenaMoves", fn := fun _ => fun
  | [d1, d2, d3, d4] => { results := [.lit (.bool true)], args := [d1, d2, d3, d4] }
  | _ => none }
def arenaMovesRow : OpenClaim := { program := "ytbmeaimdmonopaa", sum := "fe2cee2755dfd05014abce8d76b41ef04d74c7030c98d67a413e2c08732f24c4", func := "pluginhost/pluginhostlaw7.ArenaMoves", spec := "arenaMoves", unfollowed := true, recurses := true, apart := false }
def ArenaMovesSaid : Prop := arenaMovesRow.holds Try.pinned (OpenSpec.ofChange arenaMovesSpec)

/-- ITS FALSE NEIGHBOUR: 'it returns false'. Refute it at one input. -/
def arenaMovesWrong : ChangeSpec := { name := "arenaMoves", fn := fun _ => fun
  | [d1, d2, d3, d4] => { results := [.lit (.bool false)], args := [d1, d2, d3, d4] }
  | _ => none }
def ArenaMovesWrongFalsely : Prop := arenaMovesRow.holds Try.pinned (OpenSpec.ofChange arenaMovesWrong)

/-- 'pluginhostlaw7.ArenaApart': WHATEVER THE INPUT: true; the input reads as it did. -/
def arenaApartSpec : ChangeSpec := { name := "arenaApart", fn := fun _ => fun
  | [d1, d2, d3, d4] => { results := [.lit (.bool true)], args := [d1, d2, d3, d4] }
  | _ => none }
def arenaApartRow : OpenClaim := { program := "ytbmeaimdmonopaa", sum := "fe2cee2755dfd05014abce8d76b41ef04d74c7030c98d67a413e2c08732f24c4", func := "pluginhost/pluginhostlaw7.ArenaApart", spec := "arenaApart", unfollowed := true, recurses := true, apart := false }
def ArenaApartSaid : Prop := arenaApartRow.holds Try.pinned (OpenSpec.ofChange arenaApartSpec)

/-- ITS FALSE NEIGHBOUR: 'it returns false'. Refute it at one input. -/
def arenaApartWrong : ChangeSpec := { name := "arenaApart", fn := fun _ => fun
  | [d1, d2, d3, d4] => { results := [.lit (.bool false)], args := [d1, d2, d3, d4] }
  | _ => none }
def ArenaApartWrongFalsely : Prop := arenaApartRow.holds Try.pinned (OpenSpec.ofChange arenaApartWrong)

/-- 'pluginhostlaw7.ArenaPlays': WHATEVER THE INPUT: true; the input reads as it did. -/
def arenaPlaysSpec : ChangeSpec := { name := "arenaPlays", fn := fun _ => fun
  | [d1, d2] => { results := [.lit (.bool true)], args := [d1, d2] }
  | _ => none }
def arenaPlaysRow : OpenClaim := { program := "ytbmeaimdmonopaa", sum := "fe2cee2755dfd05014abce8d76b41ef04d74c7030c98d67a413e2c08732f24c4", func := "pluginhost/pluginhostlaw7.ArenaPlays", spec := "arenaPlays", unfollowed := true, recurses := true, apart := false }
def ArenaPlaysSaid : Prop := arenaPlaysRow.holds Try.pinned (OpenSpec.ofChange arenaPlaysSpec)

/-- ITS FALSE NEIGHBOUR: 'it returns false'. Refute it at one input. -/
def arenaPlaysWrong : ChangeSpec := { name := "arenaPlays", fn := fun _ => fun
  | [d1, d2] => { results := [.lit (.bool false)], args := [d1, d2] }
  | _ => none }
def ArenaPlaysWrongFalsely : Prop := arenaPlaysRow.holds Try.pinned (OpenSpec.ofChange arenaPlaysWrong)

/-- 'pluginhostlaw7.ArenaRaw': WHATEVER THE INPUT: true; the input reads as it did. -/
def arenaRawSpec : ChangeSpec := { name := "arenaRaw", fn := fun _ => fun
  | [d1, d2, d3, d4, d5, d6, d7, d8, d9] => { results := [.lit (.bool true)], args := [d1, d2, d3, d4, d5, d6, d7, d8, d9] }
  | _ => none }
def arenaRawRow : OpenClaim := { program := "ytbmeaimdmonopaa", sum := "fe2cee2755dfd05014abce8d76b41ef04d74c7030c98d67a413e2c08732f24c4", func := "pluginhost/pluginhostlaw7.ArenaRaw", spec := "arenaRaw", unfollowed := true, recurses := true, apart := false }
def ArenaRawSaid : Prop := arenaRawRow.holds Try.pinned (OpenSpec.ofChange arenaRawSpec)

/-- ITS FALSE NEIGHBOUR: 'it returns false'. Refute it at one input. -/
def arenaRawWrong : ChangeSpec := { name := "arenaRaw", fn := fun _ => fun
  | [d1, d2, d3, d4, d5, d6, d7, d8, d9] => { results := [.lit (.bool false)], args := [d1, d2, d3, d4, d5, d6, d7, d8, d9] }
  | _ => none }
def ArenaRawWrongFalsely : Prop := arenaRawRow.holds Try.pinned (OpenSpec.ofChange arenaRawWrong)

/-- 'pluginhostlaw7.ArenaNone': WHATEVER THE INPUT: true; the input reads as it did. -/
def arenaNoneSpec : ChangeSpec := { name := "arenaNone", fn := fun _ => fun
  | [d1, d2, d3, d4] => { results := [.lit (.bool true)], args := [d1, d2, d3, d4] }
  | _ => none }
def arenaNoneRow : OpenClaim := { program := "ytbmeaimdmonopaa", sum := "fe2cee2755dfd05014abce8d76b41ef04d74c7030c98d67a413e2c08732f24c4", func := "pluginhost/pluginhostlaw7.ArenaNone", spec := "arenaNone", unfollowed := true, recurses := true, apart := false }
def ArenaNoneSaid : Prop := arenaNoneRow.holds Try.pinned (OpenSpec.ofChange arenaNoneSpec)

/-- ITS FALSE NEIGHBOUR: 'it returns false'. Refute it at one input. -/
def arenaNoneWrong : ChangeSpec := { name := "arenaNone", fn := fun _ => fun
  | [d1, d2, d3, d4] => { results := [.lit (.bool false)], args := [d1, d2, d3, d4] }
  | _ => none }
def ArenaNoneWrongFalsely : Prop := arenaNoneRow.holds Try.pinned (OpenSpec.ofChange arenaNoneWrong)

/-- 'pluginhostlaw7.ArenaZero': WHATEVER THE INPUT: true; the input reads as it did. -/
def arenaZeroSpec : ChangeSpec := { name := "arenaZero", fn := fun _ => fun
  | [d1, d2, d3] => { results := [.lit (.bool true)], args := [d1, d2, d3] }
  | _ => none }
def arenaZeroRow : OpenClaim := { program := "ytbmeaimdmonopaa", sum := "fe2cee2755dfd05014abce8d76b41ef04d74c7030c98d67a413e2c08732f24c4", func := "pluginhost/pluginhostlaw7.ArenaZero", spec := "arenaZero", unfollowed := true, recurses := true, apart := false }
def ArenaZeroSaid : Prop := arenaZeroRow.holds Try.pinned (OpenSpec.ofChange arenaZeroSpec)

/-- ITS FALSE NEIGHBOUR: 'it returns false'. Refute it at one input. -/
def arenaZeroWrong : ChangeSpec := { name := "arenaZero", fn := fun _ => fun
  | [d1, d2, d3] => { results := [.lit (.bool false)], args := [d1, d2, d3] }
  | _ => none }
def ArenaZeroWrongFalsely : Prop := arenaZeroRow.holds Try.pinned (OpenSpec.ofChange arenaZeroWrong)

/- THE SECOND FORM. 'bulk': how many values and letters a reading holds, each counted each time it is reached (what is shared counts as often as it is met; a slice's spare places count too). A statement '..UptoSaid' is the law's where the arguments, and the package variables that the reading takes, are together of bulk at most 1048576: NARROWER than '..Said'. Prove '..Said' where nothing that the law and all that it calls make is longer than what came in: it says more and counts as full. Else prove '..UptoSaid'. A law counts once. -/
mutual
def uptoBulk {H : Type} : DataW H → Nat
  | .lit (.string bytes) => bytes.length + 1
  | .lit _ => 1
  | .nil => 1
  | .ptr d => uptoBulk d + 1
  | .slice elems spare => uptoBulkAll elems + uptoBulkAll spare + 1
  | .agg parts => uptoBulkAll parts + 1
  | .iface _ d => uptoBulk d + 1
  | .map entries => uptoBulkEntries entries + 1
  | .held _ => 1
def uptoBulkAll {H : Type} : List (DataW H) → Nat
  | [] => 0
  | d :: r => uptoBulk d + uptoBulkAll r
def uptoBulkEntries {H : Type} : List (Lit × DataW H) → Nat
  | [] => 0
  | x :: r => uptoBulkEntry x + uptoBulkEntries r
def uptoBulkEntry {H : Type} : Lit × DataW H → Nat
  | (.string bytes, d) => bytes.length + uptoBulk d + 1
  | (_, d) => uptoBulk d + 1
 end
def uptoSmall : (H : Type) → List (DataW H) → Bool := fun _ ds => decide (uptoBulkAll ds ≤ 1048576)
def OpenSpec.upto (s : _root_.Go.ChangeSpec) : _root_.Go.OpenSpec := { _root_.Go.OpenSpec.ofChange s with cond := some uptoSmall }

/-- 'pluginhostlaw5.SizeclassSizes', WHERE WHAT IT READS IS OF BULK AT MOST 1048576: true; the input reads as it did. -/
def sizeclassSizesUptoRow : OpenClaim := { program := "ytbmeaimdmonopaa", sum := "fe2cee2755dfd05014abce8d76b41ef04d74c7030c98d67a413e2c08732f24c4", func := "pluginhost/pluginhostlaw5.SizeclassSizes", spec := "sizeclassSizes", unfollowed := true, recurses := true, apart := false, narrowed := true }
def SizeclassSizesUptoSaid : Prop := sizeclassSizesUptoRow.holds Try.pinned (OpenSpec.upto sizeclassSizesSpec)

/-- 'pluginhostlaw5.SizeclassLeast', WHERE WHAT IT READS IS OF BULK AT MOST 1048576: true; the input reads as it did. -/
def sizeclassLeastUptoRow : OpenClaim := { program := "ytbmeaimdmonopaa", sum := "fe2cee2755dfd05014abce8d76b41ef04d74c7030c98d67a413e2c08732f24c4", func := "pluginhost/pluginhostlaw5.SizeclassLeast", spec := "sizeclassLeast", unfollowed := true, recurses := true, apart := false, narrowed := true }
def SizeclassLeastUptoSaid : Prop := sizeclassLeastUptoRow.holds Try.pinned (OpenSpec.upto sizeclassLeastSpec)

/-- 'pluginhostlaw5.SizeclassRound', WHERE WHAT IT READS IS OF BULK AT MOST 1048576: true; the input reads as it did. -/
def sizeclassRoundUptoRow : OpenClaim := { program := "ytbmeaimdmonopaa", sum := "fe2cee2755dfd05014abce8d76b41ef04d74c7030c98d67a413e2c08732f24c4", func := "pluginhost/pluginhostlaw5.SizeclassRound", spec := "sizeclassRound", unfollowed := true, recurses := true, apart := false, narrowed := true }
def SizeclassRoundUptoSaid : Prop := sizeclassRoundUptoRow.holds Try.pinned (OpenSpec.upto sizeclassRoundSpec)

/-- 'pluginhostlaw5.SizeclassOrder', WHERE WHAT IT READS IS OF BULK AT MOST 1048576: true; the input reads as it did. -/
def sizeclassOrderUptoRow : OpenClaim := { program := "ytbmeaimdmonopaa", sum := "fe2cee2755dfd05014abce8d76b41ef04d74c7030c98d67a413e2c08732f24c4", func := "pluginhost/pluginhostlaw5.SizeclassOrder", spec := "sizeclassOrder", unfollowed := true, recurses := true, apart := false, narrowed := true }
def SizeclassOrderUptoSaid : Prop := sizeclassOrderUptoRow.holds Try.pinned (OpenSpec.upto sizeclassOrderSpec)

/-- 'pluginhostlaw4.ExtentsInsert', WHERE WHAT IT READS IS OF BULK AT MOST 1048576: true; the input reads as it did. -/
def extentsInsertUptoRow : OpenClaim := { program := "ytbmeaimdmonopaa", sum := "fe2cee2755dfd05014abce8d76b41ef04d74c7030c98d67a413e2c08732f24c4", func := "pluginhost/pluginhostlaw4.ExtentsInsert", spec := "extentsInsert", unfollowed := true, recurses := true, apart := false, narrowed := true }
def ExtentsInsertUptoSaid : Prop := extentsInsertUptoRow.holds Try.pinned (OpenSpec.upto extentsInsertSpec)

/-- 'pluginhostlaw4.ExtentsCommute', WHERE WHAT IT READS IS OF BULK AT MOST 1048576: true; the input reads as it did. -/
def extentsCommuteUptoRow : OpenClaim := { program := "ytbmeaimdmonopaa", sum := "fe2cee2755dfd05014abce8d76b41ef04d74c7030c98d67a413e2c08732f24c4", func := "pluginhost/pluginhostlaw4.ExtentsCommute", spec := "extentsCommute", unfollowed := true, recurses := true, apart := false, narrowed := true }
def ExtentsCommuteUptoSaid : Prop := extentsCommuteUptoRow.holds Try.pinned (OpenSpec.upto extentsCommuteSpec)

/-- 'pluginhostlaw4.ExtentsRaw', WHERE WHAT IT READS IS OF BULK AT MOST 1048576: true; the input reads as it did. -/
def extentsRawUptoRow : OpenClaim := { program := "ytbmeaimdmonopaa", sum := "fe2cee2755dfd05014abce8d76b41ef04d74c7030c98d67a413e2c08732f24c4", func := "pluginhost/pluginhostlaw4.ExtentsRaw", spec := "extentsRaw", unfollowed := true, recurses := true, apart := false, narrowed := true }
def ExtentsRawUptoSaid : Prop := extentsRawUptoRow.holds Try.pinned (OpenSpec.upto extentsRawSpec)

/-- 'pluginhostlaw4.ExtentsComplement', WHERE WHAT IT READS IS OF BULK AT MOST 1048576: true; the input reads as it did. -/
def extentsComplementUptoRow : OpenClaim := { program := "ytbmeaimdmonopaa", sum := "fe2cee2755dfd05014abce8d76b41ef04d74c7030c98d67a413e2c08732f24c4", func := "pluginhost/pluginhostlaw4.ExtentsComplement", spec := "extentsComplement", unfollowed := true, recurses := true, apart := false, narrowed := true }
def ExtentsComplementUptoSaid : Prop := extentsComplementUptoRow.holds Try.pinned (OpenSpec.upto extentsComplementSpec)

/-- 'pluginhostlaw4.ExtentsOffsets', WHERE WHAT IT READS IS OF BULK AT MOST 1048576: true; the input reads as it did. -/
def extentsOffsetsUptoRow : OpenClaim := { program := "ytbmeaimdmonopaa", sum := "fe2cee2755dfd05014abce8d76b41ef04d74c7030c98d67a413e2c08732f24c4", func := "pluginhost/pluginhostlaw4.ExtentsOffsets", spec := "extentsOffsets", unfollowed := true, recurses := true, apart := false, narrowed := true }
def ExtentsOffsetsUptoSaid : Prop := extentsOffsetsUptoRow.holds Try.pinned (OpenSpec.upto extentsOffsetsSpec)

/-- 'pluginhostlaw4.ExtentsRemove', WHERE WHAT IT READS IS OF BULK AT MOST 1048576: true; the input reads as it did. -/
def extentsRemoveUptoRow : OpenClaim := { program := "ytbmeaimdmonopaa", sum := "fe2cee2755dfd05014abce8d76b41ef04d74c7030c98d67a413e2c08732f24c4", func := "pluginhost/pluginhostlaw4.ExtentsRemove", spec := "extentsRemove", unfollowed := true, recurses := true, apart := false, narrowed := true }
def ExtentsRemoveUptoSaid : Prop := extentsRemoveUptoRow.holds Try.pinned (OpenSpec.upto extentsRemoveSpec)

/-- 'pluginhostlaw4.ExtentsTwice', WHERE WHAT IT READS IS OF BULK AT MOST 1048576: true; the input reads as it did. -/
def extentsTwiceUptoRow : OpenClaim := { program := "ytbmeaimdmonopaa", sum := "fe2cee2755dfd05014abce8d76b41ef04d74c7030c98d67a413e2c08732f24c4", func := "pluginhost/pluginhostlaw4.ExtentsTwice", spec := "extentsTwice", unfollowed := true, recurses := true, apart := false, narrowed := true }
def ExtentsTwiceUptoSaid : Prop := extentsTwiceUptoRow.holds Try.pinned (OpenSpec.upto extentsTwiceSpec)

/-- 'pluginhostlaw4.ExtentsBack', WHERE WHAT IT READS IS OF BULK AT MOST 1048576: true; the input reads as it did. -/
def extentsBackUptoRow : OpenClaim := { program := "ytbmeaimdmonopaa", sum := "fe2cee2755dfd05014abce8d76b41ef04d74c7030c98d67a413e2c08732f24c4", func := "pluginhost/pluginhostlaw4.ExtentsBack", spec := "extentsBack", unfollowed := true, recurses := true, apart := false, narrowed := true }
def ExtentsBackUptoSaid : Prop := extentsBackUptoRow.holds Try.pinned (OpenSpec.upto extentsBackSpec)

/-- 'pluginhostlaw4.ExtentsBits', WHERE WHAT IT READS IS OF BULK AT MOST 1048576: true; the input reads as it did. -/
def extentsBitsUptoRow : OpenClaim := { program := "ytbmeaimdmonopaa", sum := "fe2cee2755dfd05014abce8d76b41ef04d74c7030c98d67a413e2c08732f24c4", func := "pluginhost/pluginhostlaw4.ExtentsBits", spec := "extentsBits", unfollowed := true, recurses := true, apart := false, narrowed := true }
def ExtentsBitsUptoSaid : Prop := extentsBitsUptoRow.holds Try.pinned (OpenSpec.upto extentsBitsSpec)

/-- 'pluginhostlaw6.AllocatorPlays', WHERE WHAT IT READS IS OF BULK AT MOST 1048576: true; the input reads as it did. -/
def allocatorPlaysUptoRow : OpenClaim := { program := "ytbmeaimdmonopaa", sum := "fe2cee2755dfd05014abce8d76b41ef04d74c7030c98d67a413e2c08732f24c4", func := "pluginhost/pluginhostlaw6.AllocatorPlays", spec := "allocatorPlays", unfollowed := true, recurses := true, apart := false, narrowed := true }
def AllocatorPlaysUptoSaid : Prop := allocatorPlaysUptoRow.holds Try.pinned (OpenSpec.upto allocatorPlaysSpec)

/-- 'pluginhostlaw6.AllocatorNew', WHERE WHAT IT READS IS OF BULK AT MOST 1048576: true; the input reads as it did. -/
def allocatorNewUptoRow : OpenClaim := { program := "ytbmeaimdmonopaa", sum := "fe2cee2755dfd05014abce8d76b41ef04d74c7030c98d67a413e2c08732f24c4", func := "pluginhost/pluginhostlaw6.AllocatorNew", spec := "allocatorNew", unfollowed := true, recurses := true, apart := false, narrowed := true }
def AllocatorNewUptoSaid : Prop := allocatorNewUptoRow.holds Try.pinned (OpenSpec.upto allocatorNewSpec)

/-- 'pluginhostlaw6.AllocatorParts', WHERE WHAT IT READS IS OF BULK AT MOST 1048576: true; the input reads as it did. -/
def allocatorPartsUptoRow : OpenClaim := { program := "ytbmeaimdmonopaa", sum := "fe2cee2755dfd05014abce8d76b41ef04d74c7030c98d67a413e2c08732f24c4", func := "pluginhost/pluginhostlaw6.AllocatorParts", spec := "allocatorParts", unfollowed := true, recurses := true, apart := false, narrowed := true }
def AllocatorPartsUptoSaid : Prop := allocatorPartsUptoRow.holds Try.pinned (OpenSpec.upto allocatorPartsSpec)

/-- 'pluginhostlaw6.AllocatorDrains', WHERE WHAT IT READS IS OF BULK AT MOST 1048576: true; the input reads as it did. -/
def allocatorDrainsUptoRow : OpenClaim := { program := "ytbmeaimdmonopaa", sum := "fe2cee2755dfd05014abce8d76b41ef04d74c7030c98d67a413e2c08732f24c4", func := "pluginhost/pluginhostlaw6.AllocatorDrains", spec := "allocatorDrains", unfollowed := true, recurses := true, apart := false, narrowed := true }
def AllocatorDrainsUptoSaid : Prop := allocatorDrainsUptoRow.holds Try.pinned (OpenSpec.upto allocatorDrainsSpec)

/-- 'pluginhostlaw6.AllocatorUndo', WHERE WHAT IT READS IS OF BULK AT MOST 1048576: true; the input reads as it did. -/
def allocatorUndoUptoRow : OpenClaim := { program := "ytbmeaimdmonopaa", sum := "fe2cee2755dfd05014abce8d76b41ef04d74c7030c98d67a413e2c08732f24c4", func := "pluginhost/pluginhostlaw6.AllocatorUndo", spec := "allocatorUndo", unfollowed := true, recurses := true, apart := false, narrowed := true }
def AllocatorUndoUptoSaid : Prop := allocatorUndoUptoRow.holds Try.pinned (OpenSpec.upto allocatorUndoSpec)

/-- 'pluginhostlaw6.AllocatorExact', WHERE WHAT IT READS IS OF BULK AT MOST 1048576: true; the input reads as it did. -/
def allocatorExactUptoRow : OpenClaim := { program := "ytbmeaimdmonopaa", sum := "fe2cee2755dfd05014abce8d76b41ef04d74c7030c98d67a413e2c08732f24c4", func := "pluginhost/pluginhostlaw6.AllocatorExact", spec := "allocatorExact", unfollowed := true, recurses := true, apart := false, narrowed := true }
def AllocatorExactUptoSaid : Prop := allocatorExactUptoRow.holds Try.pinned (OpenSpec.upto allocatorExactSpec)

/-- 'pluginhostlaw7.ArenaLittle', WHERE WHAT IT READS IS OF BULK AT MOST 1048576: true; the input reads as it did. -/
def arenaLittleUptoRow : OpenClaim := { program := "ytbmeaimdmonopaa", sum := "fe2cee2755dfd05014abce8d76b41ef04d74c7030c98d67a413e2c08732f24c4", func := "pluginhost/pluginhostlaw7.ArenaLittle", spec := "arenaLittle", unfollowed := true, recurses := true, apart := false, narrowed := true }
def ArenaLittleUptoSaid : Prop := arenaLittleUptoRow.holds Try.pinned (OpenSpec.upto arenaLittleSpec)

/-- 'pluginhostlaw7.ArenaMoves', WHERE WHAT IT READS IS OF BULK AT MOST 1048576: true; the input reads as it did. -/
def arenaMovesUptoRow : OpenClaim := { program := "ytbmeaimdmonopaa", sum := "fe2cee2755dfd05014abce8d76b41ef04d74c7030c98d67a413e2c08732f24c4", func := "pluginhost/pluginhostlaw7.ArenaMoves", spec := "arenaMoves", unfollowed := true, recurses := true, apart := false, narrowed := true }
def ArenaMovesUptoSaid : Prop := arenaMovesUptoRow.holds Try.pinned (OpenSpec.upto arenaMovesSpec)

/-- 'pluginhostlaw7.ArenaApart', WHERE WHAT IT READS IS OF BULK AT MOST 1048576: true; the input reads as it did. -/
def arenaApartUptoRow : OpenClaim := { program := "ytbmeaimdmonopaa", sum := "fe2cee2755dfd05014abce8d76b41ef04d74c7030c98d67a413e2c08732f24c4", func := "pluginhost/pluginhostlaw7.ArenaApart", spec := "arenaApart", unfollowed := true, recurses := true, apart := false, narrowed := true }
def ArenaApartUptoSaid : Prop := arenaApartUptoRow.holds Try.pinned (OpenSpec.upto arenaApartSpec)

/-- 'pluginhostlaw7.ArenaPlays', WHERE WHAT IT READS IS OF BULK AT MOST 1048576: true; the input reads as it did. -/
def arenaPlaysUptoRow : OpenClaim := { program := "ytbmeaimdmonopaa", sum := "fe2cee2755dfd05014abce8d76b41ef04d74c7030c98d67a413e2c08732f24c4", func := "pluginhost/pluginhostlaw7.ArenaPlays", spec := "arenaPlays", unfollowed := true, recurses := true, apart := false, narrowed := true }
def ArenaPlaysUptoSaid : Prop := arenaPlaysUptoRow.holds Try.pinned (OpenSpec.upto arenaPlaysSpec)

/-- 'pluginhostlaw7.ArenaRaw', WHERE WHAT IT READS IS OF BULK AT MOST 1048576: true; the input reads as it did. -/
def arenaRawUptoRow : OpenClaim := { program := "ytbmeaimdmonopaa", sum := "fe2cee2755dfd05014abce8d76b41ef04d74c7030c98d67a413e2c08732f24c4", func := "pluginhost/pluginhostlaw7.ArenaRaw", spec := "arenaRaw", unfollowed := true, recurses := true, apart := false, narrowed := true }
def ArenaRawUptoSaid : Prop := arenaRawUptoRow.holds Try.pinned (OpenSpec.upto arenaRawSpec)

/-- 'pluginhostlaw7.ArenaNone', WHERE WHAT IT READS IS OF BULK AT MOST 1048576: true; the input reads as it did. -/
def arenaNoneUptoRow : OpenClaim := { program := "ytbmeaimdmonopaa", sum := "fe2cee2755dfd05014abce8d76b41ef04d74c7030c98d67a413e2c08732f24c4", func := "pluginhost/pluginhostlaw7.ArenaNone", spec := "arenaNone", unfollowed := true, recurses := true, apart := false, narrowed := true }
def ArenaNoneUptoSaid : Prop := arenaNoneUptoRow.holds Try.pinned (OpenSpec.upto arenaNoneSpec)

/-- 'pluginhostlaw7.ArenaZero', WHERE WHAT IT READS IS OF BULK AT MOST 1048576: true; the input reads as it did. -/
def arenaZeroUptoRow : OpenClaim := { program := "ytbmeaimdmonopaa", sum := "fe2cee2755dfd05014abce8d76b41ef04d74c7030c98d67a413e2c08732f24c4", func := "pluginhost/pluginhostlaw7.ArenaZero", spec := "arenaZero", unfollowed := true, recurses := true, apart := false, narrowed := true }
def ArenaZeroUptoSaid : Prop := arenaZeroUptoRow.holds Try.pinned (OpenSpec.upto arenaZeroSpec)

end Rows
end Go.Proofs.Ytbmeaimdmonopaa
