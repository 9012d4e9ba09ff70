/-
  No cell of these rows narrows 'for every input' (looked for: loops, veiled, ifaces, maps, wideKeys, modest, calm, conditions, laid).
  DERIVED. THE GIVEN ROWS OF THIS SEAT. 6 by the template 'for every input the law returns true; each argument reads behind the call as it read before'; 0 by the template 'total and deterministic' (their statements: YtejogdielfgeoaaTotals.lean).
  GIVEN WITH THE SEED: the statements are not yours to turn. If you find one false, say at which input.
  Laid BY PROGRAM, IN A SANDBOX (cutbox-rows.mjs): the forced cells as the released guide's own fill.sh prints them over the translation ea964b62d1f1c5a7… (all of the seat's roots in one cut). By AI agents, Wed Nov 11 2026. No macro, syntax, notation, axiom, sorry.
-/
import Derived.Test.YtejogdielfgeoaaChecked
import GoSem.Claim
import GoSem.ClaimJoined
import GoSem.ClaimMapViews
import Derived.JoinedTies
import Derived.KernelRfl
namespace Go.Proofs.Ytejogdielfgeoaa
/- THE CELL 'sum', in the pinned program and in every row, IS THE sha256 OF THE DUMP (.gsa) THAT YtejogdielfgeoaaProg.lean LOADS. Nothing in Lean hashes anything: it is a label: what it is worth is what the hold of that sum in a sandbox is worth. -/
noncomputable def Try.pinned : Pinned := { name := "ytejogdielfgeoaa", sum := "ea964b62d1f1c5a754034087958a25c8fbd28640d29bdb0d57040e5bb08392d9", checked := Try.checked }
namespace Rows
def none {H : Type} : Left H := { results := [], args := [] }

/-- 'pluginhostlaw6.AllocatorPlays': WHATEVER THE INPUT: true; the input reads as it did. -/
def allocatorPlaysSpec : ChangeSpec := { name := "allocatorPlays", fn := fun _ => fun
  | [d1, d2] => { results := [.lit (.bool true)], args := [d1, d2] }
  | _ => none }
def allocatorPlaysRow : OpenClaim := { program := "ytejogdielfgeoaa", sum := "ea964b62d1f1c5a754034087958a25c8fbd28640d29bdb0d57040e5bb08392d9", func := "pluginhost/pluginhostlaw6.AllocatorPlays", spec := "allocatorPlays", unfollowed := true, recurses := true, apart := false }
def AllocatorPlaysSaid : Prop := allocatorPlaysRow.holds Try.pinned (OpenSpec.ofChange allocatorPlaysSpec)

/-- ITS FALSE NEIGHBOUR: 'it returns false'. Refute it at one input. -/
def allocatorPlaysWrong : ChangeSpec := { name := "allocatorPlays", fn := fun _ => fun
  | [d1, d2] => { results := [.lit (.bool false)], args := [d1, d2] }
  | _ => none }
def AllocatorPlaysWrongFalsely : Prop := allocatorPlaysRow.holds Try.pinned (OpenSpec.ofChange allocatorPlaysWrong)

/-- 'pluginhostlaw6.AllocatorNew': WHATEVER THE INPUT: true; the input reads as it did. -/
def allocatorNewSpec : ChangeSpec := { name := "allocatorNew", fn := fun _ => fun
  | [d1, d2, d3, d4] => { results := [.lit (.bool true)], args := [d1, d2, d3, d4] }
  | _ => none }
def allocatorNewRow : OpenClaim := { program := "ytejogdielfgeoaa", sum := "ea964b62d1f1c5a754034087958a25c8fbd28640d29bdb0d57040e5bb08392d9", func := "pluginhost/pluginhostlaw6.AllocatorNew", spec := "allocatorNew", unfollowed := true, recurses := true, apart := false }
def AllocatorNewSaid : Prop := allocatorNewRow.holds Try.pinned (OpenSpec.ofChange allocatorNewSpec)

/-- ITS FALSE NEIGHBOUR: 'it returns false'. Refute it at one input. -/
def allocatorNewWrong : ChangeSpec := { name := "allocatorNew", fn := fun _ => fun
  | [d1, d2, d3, d4] => { results := [.lit (.bool false)], args := [d1, d2, d3, d4] }
  | _ => none }
def AllocatorNewWrongFalsely : Prop := allocatorNewRow.holds Try.pinned (OpenSpec.ofChange allocatorNewWrong)

/-- 'pluginhostlaw6.AllocatorParts': WHATEVER THE INPUT: true; the input reads as it did. -/
def allocatorPartsSpec : ChangeSpec := { name := "allocatorParts", fn := fun _ => fun
  | [d1, d2] => { results := [.lit (.bool true)], args := [d1, d2] }
  | _ => none }
def allocatorPartsRow : OpenClaim := { program := "ytejogdielfgeoaa", sum := "ea964b62d1f1c5a754034087958a25c8fbd28640d29bdb0d57040e5bb08392d9", func := "pluginhost/pluginhostlaw6.AllocatorParts", spec := "allocatorParts", unfollowed := true, recurses := true, apart := false }
def AllocatorPartsSaid : Prop := allocatorPartsRow.holds Try.pinned (OpenSpec.ofChange allocatorPartsSpec)

/-- ITS FALSE NEIGHBOUR: 'it returns false'. Refute it at one input. -/
def allocatorPartsWrong : ChangeSpec := { name := "allocatorParts", fn := fun _ => fun
  | [d1, d2] => { results := [.lit (.bool false)], args := [d1, d2] }
  | _ => none }
def AllocatorPartsWrongFalsely : Prop := allocatorPartsRow.holds Try.pinned (OpenSpec.ofChange allocatorPartsWrong)

/-- 'pluginhostlaw6.AllocatorDrains': WHATEVER THE INPUT: true; the input reads as it did. -/
def allocatorDrainsSpec : ChangeSpec := { name := "allocatorDrains", fn := fun _ => fun
  | [d1, d2, d3] => { results := [.lit (.bool true)], args := [d1, d2, d3] }
  | _ => none }
def allocatorDrainsRow : OpenClaim := { program := "ytejogdielfgeoaa", sum := "ea964b62d1f1c5a754034087958a25c8fbd28640d29bdb0d57040e5bb08392d9", func := "pluginhost/pluginhostlaw6.AllocatorDrains", spec := "allocatorDrains", unfollowed := true, recurses := true, apart := false }
def AllocatorDrainsSaid : Prop := allocatorDrainsRow.holds Try.pinned (OpenSpec.ofChange allocatorDrainsSpec)

/-- ITS FALSE NEIGHBOUR: 'it returns false'. Refute it at one input. -/
def allocatorDrainsWrong : ChangeSpec := { name := "allocatorDrains", fn := fun _ => fun
  | [d1, d2, d3] => { results := [.lit (.bool false)], args := [d1, d2, d3] }
  | _ => none }
def AllocatorDrainsWrongFalsely : Prop := allocatorDrainsRow.holds Try.pinned (OpenSpec.ofChange allocatorDrainsWrong)

/-- 'pluginhostlaw6.AllocatorUndo': WHATEVER THE INPUT: true; the input reads as it did. -/
def allocatorUndoSpec : ChangeSpec := { name := "allocatorUndo", fn := fun _ => fun
  | [d1, d2, d3] => { results := [.lit (.bool true)], args := [d1, d2, d3] }
  | _ => none }
def allocatorUndoRow : OpenClaim := { program := "ytejogdielfgeoaa", sum := "ea964b62d1f1c5a754034087958a25c8fbd28640d29bdb0d57040e5bb08392d9", func := "pluginhost/pluginhostlaw6.AllocatorUndo", spec := "allocatorUndo", unfollowed := true, recurses := true, apart := false }
def AllocatorUndoSaid : Prop := allocatorUndoRow.holds Try.pinned (OpenSpec.ofChange allocatorUndoSpec)

/-- ITS FALSE NEIGHBOUR: 'it returns false'. Refute it at one input. -/
def allocatorUndoWrong : ChangeSpec := { name := "allocatorUndo", fn := fun _ => fun
  | [d1, d2, d3] => { results := [.lit (.bool false)], args := [d1, d2, d3] }
  | _ => none }
def AllocatorUndoWrongFalsely : Prop := allocatorUndoRow.holds Try.pinned (OpenSpec.ofChange allocatorUndoWrong)

/-- 'pluginhostlaw6.AllocatorExact': WHATEVER THE INPUT: true; the input reads as it did. -/
def allocatorExactSpec : ChangeSpec := { name := "allocatorExact", fn := fun _ => fun
  | [d1, d2, d3] => { results := [.lit (.bool true)], args := [d1, d2, d3] }
  | _ => none }
def allocatorExactRow : OpenClaim := { program := "ytejogdielfgeoaa", sum := "ea964b62d1f1c5a754034087958a25c8fbd28640d29bdb0d57040e5bb08392d9", func := "pluginhost/pluginhostlaw6.AllocatorExact", spec := "allocatorExact", unfollowed := true, recurses := true, apart := false }
def AllocatorExactSaid : Prop := allocatorExactRow.holds Try.pinned (OpenSpec.ofChange allocatorExactSpec)

/-- ITS FALSE NEIGHBOUR: 'it returns false'. Refute it at one input. -/
def allocatorExactWrong : ChangeSpec := { name := "allocatorExact", fn := fun _ => fun
  | [d1, d2, d3] => { results := [.lit (.bool false)], args := [d1, d2, d3] }
  | _ => none }
def AllocatorExactWrongFalsely : Prop := allocatorExactRow.holds Try.pinned (OpenSpec.ofChange allocatorExactWrong)

/- THE SECOND FORM. 'bulk': how many values and letters a reading holds, each counted each time it is reached (what is shared counts as often as it is met; a slice's spare places count too). A statement '..UptoSaid' is the law's where the arguments, and the package variables that the reading takes, are together of bulk at most 1048576: NARROWER than '..Said'. Prove '..Said' where nothing that the law and all that it calls make is longer than what came in: it says more and counts as full. Else prove '..UptoSaid'. A law counts once. -/
mutual
def uptoBulk {H : Type} : DataW H → Nat
  | .lit (.string bytes) => bytes.length + 1
  | .lit _ => 1
  | .nil => 1
  | .ptr d => uptoBulk d + 1
  | .slice elems spare => uptoBulkAll elems + uptoBulkAll spare + 1
  | .agg parts => uptoBulkAll parts + 1
  | .iface _ d => uptoBulk d + 1
  | .map entries => uptoBulkEntries entries + 1
  | .held _ => 1
def uptoBulkAll {H : Type} : List (DataW H) → Nat
  | [] => 0
  | d :: r => uptoBulk d + uptoBulkAll r
def uptoBulkEntries {H : Type} : List (Lit × DataW H) → Nat
  | [] => 0
  | x :: r => uptoBulkEntry x + uptoBulkEntries r
def uptoBulkEntry {H : Type} : Lit × DataW H → Nat
  | (.string bytes, d) => bytes.length + uptoBulk d + 1
  | (_, d) => uptoBulk d + 1
 end
def uptoSmall : (H : Type) → List (DataW H) → Bool := fun _ ds => decide (uptoBulkAll ds ≤ 1048576)
def OpenSpec.upto (s : _root_.Go.ChangeSpec) : _root_.Go.OpenSpec := { _root_.Go.OpenSpec.ofChange s with cond := some uptoSmall }

/-- 'pluginhostlaw6.AllocatorPlays', WHERE WHAT IT READS IS OF BULK AT MOST 1048576: true; the input reads as it did. -/
def allocatorPlaysUptoRow : OpenClaim := { program := "ytejogdielfgeoaa", sum := "ea964b62d1f1c5a754034087958a25c8fbd28640d29bdb0d57040e5bb08392d9", func := "pluginhost/pluginhostlaw6.AllocatorPlays", spec := "allocatorPlays", unfollowed := true, recurses := true, apart := false, narrowed := true }
def AllocatorPlaysUptoSaid : Prop := allocatorPlaysUptoRow.holds Try.pinned (OpenSpec.upto allocatorPlaysSpec)

/-- 'pluginhostlaw6.AllocatorNew', WHERE WHAT IT READS IS OF BULK AT MOST 1048576: true; the input reads as it did. -/
def allocatorNewUptoRow : OpenClaim := { program := "ytejogdielfgeoaa", sum := "ea964b62d1f1c5a754034087958a25c8fbd28640d29bdb0d57040e5bb08392d9", func := "pluginhost/pluginhostlaw6.AllocatorNew", spec := "allocatorNew", unfollowed := true, recurses := true, apart := false, narrowed := true }
def AllocatorNewUptoSaid : Prop := allocatorNewUptoRow.holds Try.pinned (OpenSpec.upto allocatorNewSpec)

/-- 'pluginhostlaw6.AllocatorParts', WHERE WHAT IT READS IS OF BULK AT MOST 1048576: true; the input reads as it did. -/
def allocatorPartsUptoRow : OpenClaim := { program := "ytejogdielfgeoaa", sum := "ea964b62d1f1c5a754034087958a25c8fbd28640d29bdb0d57040e5bb08392d9", func := "pluginhost/pluginhostlaw6.AllocatorParts", spec := "allocatorParts", unfollowed := true, recurses := true, apart := false, narrowed := true }
def AllocatorPartsUptoSaid : Prop := allocatorPartsUptoRow.holds Try.pinned (OpenSpec.upto allocatorPartsSpec)

/-- 'pluginhostlaw6.AllocatorDrains', WHERE WHAT IT READS IS OF BULK AT MOST 1048576: true; the input reads as it did. -/
def allocatorDrainsUptoRow : OpenClaim := { program := "ytejogdielfgeoaa", sum := "ea964b62d1f1c5a754034087958a25c8fbd28640d29bdb0d57040e5bb08392d9", func := "pluginhost/pluginhostlaw6.AllocatorDrains", spec := "allocatorDrains", unfollowed := true, recurses := true, apart := false, narrowed := true }
def AllocatorDrainsUptoSaid : Prop := allocatorDrainsUptoRow.holds Try.pinned (OpenSpec.upto allocatorDrainsSpec)

/-- 'pluginhostlaw6.AllocatorUndo', WHERE WHAT IT READS IS OF BULK AT MOST 1048576: true; the input reads as it did. -/
def allocatorUndoUptoRow : OpenClaim := { program := "ytejogdielfgeoaa", sum := "ea964b62d1f1c5a754034087958a25c8fbd28640d29bdb0d57040e5bb08392d9", func := "pluginhost/pluginhostlaw6.AllocatorUndo", spec := "allocatorUndo", unfollowed := true, recurses := true, apart := false, narrowed := true }
def AllocatorUndoUptoSaid : Prop := allocatorUndoUptoRow.holds Try.pinned (OpenSpec.upto allocatorUndoSpec)

/-- 'pluginhostlaw6.AllocatorExact', WHERE WHAT IT READS IS OF BULK AT MOST 1048576: true; the input reads as it did. -/
def allocatorExactUptoRow : OpenClaim := { program := "ytejogdielfgeoaa", sum := "ea964b62d1f1c5a754034087958a25c8fbd28640d29bdb0d57040e5bb08392d9", func := "pluginhost/pluginhostlaw6.AllocatorExact", spec := "allocatorExact", unfollowed := true, recurses := true, apart := false, narrowed := true }
def AllocatorExactUptoSaid : Prop := allocatorExactUptoRow.holds Try.pinned (OpenSpec.upto allocatorExactSpec)

end Rows
end Go.Proofs.Ytejogdielfgeoaa
