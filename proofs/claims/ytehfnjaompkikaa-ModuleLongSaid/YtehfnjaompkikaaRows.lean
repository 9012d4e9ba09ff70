/-
  No cell of these rows narrows 'for every input' (looked for: loops, veiled, ifaces, maps, wideKeys, modest, calm, conditions, laid).
  DERIVED. THE GIVEN ROWS OF THIS SEAT. 7 by the template 'for every input the law returns true; each argument reads behind the call as it read before'; 0 by the template 'total and deterministic' (their statements: YtehfnjaompkikaaTotals.lean).
  GIVEN WITH THE SEED: the statements are not yours to turn. If you find one false, say at which input.
  Laid BY PROGRAM, IN A SANDBOX (cutbox-rows.mjs): the forced cells as the released guide's own fill.sh prints them over the translation d419baea777689e8… (all of the seat's roots in one cut). By AI agents, Wed Nov 11 2026. No macro, syntax, notation, axiom, sorry.
-/
import Derived.Test.YtehfnjaompkikaaChecked
import GoSem.Claim
import GoSem.ClaimJoined
import GoSem.ClaimMapViews
import Derived.JoinedTies
import Derived.KernelRfl
namespace Go.Proofs.Ytehfnjaompkikaa
/- THE CELL 'sum', in the pinned program and in every row, IS THE sha256 OF THE DUMP (.gsa) THAT YtehfnjaompkikaaProg.lean LOADS. Nothing in Lean hashes anything: it is a label: what it is worth is what the hold of that sum in a sandbox is worth. -/
noncomputable def Try.pinned : Pinned := { name := "ytehfnjaompkikaa", sum := "d419baea777689e80362c88d4ca0f772ae8708a0ad3088cf154e6e8ea830a99a", checked := Try.checked }
namespace Rows
def none {H : Type} : Left H := { results := [], args := [] }

/-- 'pluginhostlaw20.ModuleCheck': WHATEVER THE INPUT: true; the input reads as it did. -/
def moduleCheckSpec : ChangeSpec := { name := "moduleCheck", fn := fun _ => fun
  | [d1, d2, d3, d4, d5] => { results := [.lit (.bool true)], args := [d1, d2, d3, d4, d5] }
  | _ => none }
def moduleCheckRow : OpenClaim := { program := "ytehfnjaompkikaa", sum := "d419baea777689e80362c88d4ca0f772ae8708a0ad3088cf154e6e8ea830a99a", func := "pluginhost/pluginhostlaw20.ModuleCheck", spec := "moduleCheck", apart := false }
def ModuleCheckSaid : Prop := moduleCheckRow.holds Try.pinned (OpenSpec.ofChange moduleCheckSpec)

/-- ITS FALSE NEIGHBOUR: 'it returns false'. Refute it at one input. -/
def moduleCheckWrong : ChangeSpec := { name := "moduleCheck", fn := fun _ => fun
  | [d1, d2, d3, d4, d5] => { results := [.lit (.bool false)], args := [d1, d2, d3, d4, d5] }
  | _ => none }
def ModuleCheckWrongFalsely : Prop := moduleCheckRow.holds Try.pinned (OpenSpec.ofChange moduleCheckWrong)

/-- 'pluginhostlaw20.ModuleEncode': WHATEVER THE INPUT: true; the input reads as it did. -/
def moduleEncodeSpec : ChangeSpec := { name := "moduleEncode", fn := fun _ => fun
  | [d1, d2, d3, d4, d5] => { results := [.lit (.bool true)], args := [d1, d2, d3, d4, d5] }
  | _ => none }
def moduleEncodeRow : OpenClaim := { program := "ytehfnjaompkikaa", sum := "d419baea777689e80362c88d4ca0f772ae8708a0ad3088cf154e6e8ea830a99a", func := "pluginhost/pluginhostlaw20.ModuleEncode", spec := "moduleEncode", apart := false }
def ModuleEncodeSaid : Prop := moduleEncodeRow.holds Try.pinned (OpenSpec.ofChange moduleEncodeSpec)

/-- ITS FALSE NEIGHBOUR: 'it returns false'. Refute it at one input. -/
def moduleEncodeWrong : ChangeSpec := { name := "moduleEncode", fn := fun _ => fun
  | [d1, d2, d3, d4, d5] => { results := [.lit (.bool false)], args := [d1, d2, d3, d4, d5] }
  | _ => none }
def ModuleEncodeWrongFalsely : Prop := moduleEncodeRow.holds Try.pinned (OpenSpec.ofChange moduleEncodeWrong)

/-- 'pluginhostlaw20.ModuleLong': WHATEVER THE INPUT: true; the input reads as it did. -/
def moduleLongSpec : ChangeSpec := { name := "moduleLong", fn := fun _ => fun
  | [d1, d2] => { results := [.lit (.bool true)], args := [d1, d2] }
  | _ => none }
def moduleLongRow : OpenClaim := { program := "ytehfnjaompkikaa", sum := "d419baea777689e80362c88d4ca0f772ae8708a0ad3088cf154e6e8ea830a99a", func := "pluginhost/pluginhostlaw20.ModuleLong", spec := "moduleLong", apart := false }
def ModuleLongSaid : Prop := moduleLongRow.holds Try.pinned (OpenSpec.ofChange moduleLongSpec)

/-- ITS FALSE NEIGHBOUR: 'it returns false'. Refute it at one input. -/
def moduleLongWrong : ChangeSpec := { name := "moduleLong", fn := fun _ => fun
  | [d1, d2] => { results := [.lit (.bool false)], args := [d1, d2] }
  | _ => none }
def ModuleLongWrongFalsely : Prop := moduleLongRow.holds Try.pinned (OpenSpec.ofChange moduleLongWrong)

/-- 'pluginhostlaw20.ModuleDecode': WHATEVER THE INPUT: true; the input reads as it did. -/
def moduleDecodeSpec : ChangeSpec := { name := "moduleDecode", fn := fun _ => fun
  | [d1, d2, d3, d4, d5] => { results := [.lit (.bool true)], args := [d1, d2, d3, d4, d5] }
  | _ => none }
def moduleDecodeRow : OpenClaim := { program := "ytehfnjaompkikaa", sum := "d419baea777689e80362c88d4ca0f772ae8708a0ad3088cf154e6e8ea830a99a", func := "pluginhost/pluginhostlaw20.ModuleDecode", spec := "moduleDecode", apart := false }
def ModuleDecodeSaid : Prop := moduleDecodeRow.holds Try.pinned (OpenSpec.ofChange moduleDecodeSpec)

/-- ITS FALSE NEIGHBOUR: 'it returns false'. Refute it at one input. -/
def moduleDecodeWrong : ChangeSpec := { name := "moduleDecode", fn := fun _ => fun
  | [d1, d2, d3, d4, d5] => { results := [.lit (.bool false)], args := [d1, d2, d3, d4, d5] }
  | _ => none }
def ModuleDecodeWrongFalsely : Prop := moduleDecodeRow.holds Try.pinned (OpenSpec.ofChange moduleDecodeWrong)

/-- 'pluginhostlaw20.ModuleNumbers': WHATEVER THE INPUT: true; the input reads as it did. -/
def moduleNumbersSpec : ChangeSpec := { name := "moduleNumbers", fn := fun _ => fun
  | [d1, d2] => { results := [.lit (.bool true)], args := [d1, d2] }
  | _ => none }
def moduleNumbersRow : OpenClaim := { program := "ytehfnjaompkikaa", sum := "d419baea777689e80362c88d4ca0f772ae8708a0ad3088cf154e6e8ea830a99a", func := "pluginhost/pluginhostlaw20.ModuleNumbers", spec := "moduleNumbers", apart := false }
def ModuleNumbersSaid : Prop := moduleNumbersRow.holds Try.pinned (OpenSpec.ofChange moduleNumbersSpec)

/-- ITS FALSE NEIGHBOUR: 'it returns false'. Refute it at one input. -/
def moduleNumbersWrong : ChangeSpec := { name := "moduleNumbers", fn := fun _ => fun
  | [d1, d2] => { results := [.lit (.bool false)], args := [d1, d2] }
  | _ => none }
def ModuleNumbersWrongFalsely : Prop := moduleNumbersRow.holds Try.pinned (OpenSpec.ofChange moduleNumbersWrong)

/-- 'pluginhostlaw20.ModuleBack': WHATEVER THE INPUT: true; the input reads as it did. -/
def moduleBackSpec : ChangeSpec := { name := "moduleBack", fn := fun _ => fun
  | [d] => { results := [.lit (.bool true)], args := [d] }
  | _ => none }
def moduleBackRow : OpenClaim := { program := "ytehfnjaompkikaa", sum := "d419baea777689e80362c88d4ca0f772ae8708a0ad3088cf154e6e8ea830a99a", func := "pluginhost/pluginhostlaw20.ModuleBack", spec := "moduleBack", apart := false }
def ModuleBackSaid : Prop := moduleBackRow.holds Try.pinned (OpenSpec.ofChange moduleBackSpec)

/-- ITS FALSE NEIGHBOUR: 'it returns false'. Refute it at one input. -/
def moduleBackWrong : ChangeSpec := { name := "moduleBack", fn := fun _ => fun
  | [d] => { results := [.lit (.bool false)], args := [d] }
  | _ => none }
def ModuleBackWrongFalsely : Prop := moduleBackRow.holds Try.pinned (OpenSpec.ofChange moduleBackWrong)

/-- 'pluginhostlaw20.ModuleApart': WHATEVER THE INPUT: true; the input reads as it did. -/
def moduleApartSpec : ChangeSpec := { name := "moduleApart", fn := fun _ => fun
  | [d1, d2, d3] => { results := [.lit (.bool true)], args := [d1, d2, d3] }
  | _ => none }
def moduleApartRow : OpenClaim := { program := "ytehfnjaompkikaa", sum := "d419baea777689e80362c88d4ca0f772ae8708a0ad3088cf154e6e8ea830a99a", func := "pluginhost/pluginhostlaw20.ModuleApart", spec := "moduleApart", apart := false }
def ModuleApartSaid : Prop := moduleApartRow.holds Try.pinned (OpenSpec.ofChange moduleApartSpec)

/-- ITS FALSE NEIGHBOUR: 'it returns false'. Refute it at one input. -/
def moduleApartWrong : ChangeSpec := { name := "moduleApart", fn := fun _ => fun
  | [d1, d2, d3] => { results := [.lit (.bool false)], args := [d1, d2, d3] }
  | _ => none }
def ModuleApartWrongFalsely : Prop := moduleApartRow.holds Try.pinned (OpenSpec.ofChange moduleApartWrong)

/- THE SECOND FORM. 'bulk': how many values and letters a reading holds, each counted each time it is reached (what is shared counts as often as it is met; a slice's spare places count too). A statement '..UptoSaid' is the law's where the arguments, and the package variables that the reading takes, are together of bulk at most 1048576: NARROWER than '..Said'. Prove '..Said' where nothing that the law and all that it calls make is longer than what came in: it says more and counts as full. Else prove '..UptoSaid'. A law counts once. -/
mutual
def uptoBulk {H : Type} : DataW H → Nat
  | .lit (.string bytes) => bytes.length + 1
  | .lit _ => 1
  | .nil => 1
  | .ptr d => uptoBulk d + 1
  | .slice elems spare => uptoBulkAll elems + uptoBulkAll spare + 1
  | .agg parts => uptoBulkAll parts + 1
  | .iface _ d => uptoBulk d + 1
  | .map entries => uptoBulkEntries entries + 1
  | .held _ => 1
def uptoBulkAll {H : Type} : List (DataW H) → Nat
  | [] => 0
  | d :: r => uptoBulk d + uptoBulkAll r
def uptoBulkEntries {H : Type} : List (Lit × DataW H) → Nat
  | [] => 0
  | x :: r => uptoBulkEntry x + uptoBulkEntries r
def uptoBulkEntry {H : Type} : Lit × DataW H → Nat
  | (.string bytes, d) => bytes.length + uptoBulk d + 1
  | (_, d) => uptoBulk d + 1
 end
def uptoSmall : (H : Type) → List (DataW H) → Bool := fun _ ds => decide (uptoBulkAll ds ≤ 1048576)
def OpenSpec.upto (s : _root_.Go.ChangeSpec) : _root_.Go.OpenSpec := { _root_.Go.OpenSpec.ofChange s with cond := some uptoSmall }

/-- 'pluginhostlaw20.ModuleCheck', WHERE WHAT IT READS IS OF BULK AT MOST 1048576: true; the input reads as it did. -/
def moduleCheckUptoRow : OpenClaim := { program := "ytehfnjaompkikaa", sum := "d419baea777689e80362c88d4ca0f772ae8708a0ad3088cf154e6e8ea830a99a", func := "pluginhost/pluginhostlaw20.ModuleCheck", spec := "moduleCheck", apart := false, narrowed := true }
def ModuleCheckUptoSaid : Prop := moduleCheckUptoRow.holds Try.pinned (OpenSpec.upto moduleCheckSpec)

/-- 'pluginhostlaw20.ModuleEncode', WHERE WHAT IT READS IS OF BULK AT MOST 1048576: true; the input reads as it did. -/
def moduleEncodeUptoRow : OpenClaim := { program := "ytehfnjaompkikaa", sum := "d419baea777689e80362c88d4ca0f772ae8708a0ad3088cf154e6e8ea830a99a", func := "pluginhost/pluginhostlaw20.ModuleEncode", spec := "moduleEncode", apart := false, narrowed := true }
def ModuleEncodeUptoSaid : Prop := moduleEncodeUptoRow.holds Try.pinned (OpenSpec.upto moduleEncodeSpec)

/-- 'pluginhostlaw20.ModuleLong', WHERE WHAT IT READS IS OF BULK AT MOST 1048576: true; the input reads as it did. -/
def moduleLongUptoRow : OpenClaim := { program := "ytehfnjaompkikaa", sum := "d419baea777689e80362c88d4ca0f772ae8708a0ad3088cf154e6e8ea830a99a", func := "pluginhost/pluginhostlaw20.ModuleLong", spec := "moduleLong", apart := false, narrowed := true }
def ModuleLongUptoSaid : Prop := moduleLongUptoRow.holds Try.pinned (OpenSpec.upto moduleLongSpec)

/-- 'pluginhostlaw20.ModuleDecode', WHERE WHAT IT READS IS OF BULK AT MOST 1048576: true; the input reads as it did. -/
def moduleDecodeUptoRow : OpenClaim := { program := "ytehfnjaompkikaa", sum := "d419baea777689e80362c88d4ca0f772ae8708a0ad3088cf154e6e8ea830a99a", func := "pluginhost/pluginhostlaw20.ModuleDecode", spec := "moduleDecode", apart := false, narrowed := true }
def ModuleDecodeUptoSaid : Prop := moduleDecodeUptoRow.holds Try.pinned (OpenSpec.upto moduleDecodeSpec)

/-- 'pluginhostlaw20.ModuleNumbers', WHERE WHAT IT READS IS OF BULK AT MOST 1048576: true; the input reads as it did. -/
def moduleNumbersUptoRow : OpenClaim := { program := "ytehfnjaompkikaa", sum := "d419baea777689e80362c88d4ca0f772ae8708a0ad3088cf154e6e8ea830a99a", func := "pluginhost/pluginhostlaw20.ModuleNumbers", spec := "moduleNumbers", apart := false, narrowed := true }
def ModuleNumbersUptoSaid : Prop := moduleNumbersUptoRow.holds Try.pinned (OpenSpec.upto moduleNumbersSpec)

/-- 'pluginhostlaw20.ModuleBack', WHERE WHAT IT READS IS OF BULK AT MOST 1048576: true; the input reads as it did. -/
def moduleBackUptoRow : OpenClaim := { program := "ytehfnjaompkikaa", sum := "d419baea777689e80362c88d4ca0f772ae8708a0ad3088cf154e6e8ea830a99a", func := "pluginhost/pluginhostlaw20.ModuleBack", spec := "moduleBack", apart := false, narrowed := true }
def ModuleBackUptoSaid : Prop := moduleBackUptoRow.holds Try.pinned (OpenSpec.upto moduleBackSpec)

/-- 'pluginhostlaw20.ModuleApart', WHERE WHAT IT READS IS OF BULK AT MOST 1048576: true; the input reads as it did. -/
def moduleApartUptoRow : OpenClaim := { program := "ytehfnjaompkikaa", sum := "d419baea777689e80362c88d4ca0f772ae8708a0ad3088cf154e6e8ea830a99a", func := "pluginhost/pluginhostlaw20.ModuleApart", spec := "moduleApart", apart := false, narrowed := true }
def ModuleApartUptoSaid : Prop := moduleApartUptoRow.holds Try.pinned (OpenSpec.upto moduleApartSpec)

end Rows
end Go.Proofs.Ytehfnjaompkikaa
