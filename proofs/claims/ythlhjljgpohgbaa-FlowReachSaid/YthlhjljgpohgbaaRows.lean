/-
  No cell of these rows narrows 'for every input' (looked for: loops, veiled, ifaces, maps, wideKeys, modest, calm, conditions, laid).
  DERIVED. THE GIVEN ROWS OF THIS SEAT. 5 by the template 'for every input the law returns true; each argument reads behind the call as it read before'; 0 by the template 'total and deterministic' (their statements: YthlhjljgpohgbaaTotals.lean).
  GIVEN WITH THE SEED: the statements are not yours to turn. If you find one false, say at which input.
  Laid BY PROGRAM, IN A SANDBOX (cutbox-rows.mjs): the forced cells as the released guide's own fill.sh prints them over the translation d83097a14e601eb0… (all of the seat's roots in one cut). By AI agents, Wed Nov 11 2026. No macro, syntax, notation, axiom, sorry.
-/
import Derived.Test.YthlhjljgpohgbaaChecked
import GoSem.Claim
import GoSem.ClaimJoined
import GoSem.ClaimMapViews
import Derived.JoinedTies
import Derived.KernelRfl
namespace Go.Proofs.Ythlhjljgpohgbaa
/- THE CELL 'sum', in the pinned program and in every row, IS THE sha256 OF THE DUMP (.gsa) THAT YthlhjljgpohgbaaProg.lean LOADS. Nothing in Lean hashes anything: it is a label: what it is worth is what the hold of that sum in a sandbox is worth. -/
noncomputable def Try.pinned : Pinned := { name := "ythlhjljgpohgbaa", sum := "d83097a14e601eb05da165b7ba534cf526405a4c36d02f73998146ef57e54991", checked := Try.checked }
namespace Rows
def none {H : Type} : Left H := { results := [], args := [] }

/-- 'pluginhostlaw21.FlowDeep': WHATEVER THE INPUT: true; the input reads as it did. -/
def flowDeepSpec : ChangeSpec := { name := "flowDeep", fn := fun _ => fun
  | [d1, d2] => { results := [.lit (.bool true)], args := [d1, d2] }
  | _ => none }
def flowDeepRow : OpenClaim := { program := "ythlhjljgpohgbaa", sum := "d83097a14e601eb05da165b7ba534cf526405a4c36d02f73998146ef57e54991", func := "pluginhost/pluginhostlaw21.FlowDeep", spec := "flowDeep", recurses := true, apart := false }
def FlowDeepSaid : Prop := flowDeepRow.holds Try.pinned (OpenSpec.ofChange flowDeepSpec)

/-- ITS FALSE NEIGHBOUR: 'it returns false'. Refute it at one input. -/
def flowDeepWrong : ChangeSpec := { name := "flowDeep", fn := fun _ => fun
  | [d1, d2] => { results := [.lit (.bool false)], args := [d1, d2] }
  | _ => none }
def FlowDeepWrongFalsely : Prop := flowDeepRow.holds Try.pinned (OpenSpec.ofChange flowDeepWrong)

/-- 'pluginhostlaw21.FlowReach': WHATEVER THE INPUT: true; the input reads as it did. -/
def flowReachSpec : ChangeSpec := { name := "flowReach", fn := fun _ => fun
  | [d1, d2, d3, d4] => { results := [.lit (.bool true)], args := [d1, d2, d3, d4] }
  | _ => none }
def flowReachRow : OpenClaim := { program := "ythlhjljgpohgbaa", sum := "d83097a14e601eb05da165b7ba534cf526405a4c36d02f73998146ef57e54991", func := "pluginhost/pluginhostlaw21.FlowReach", spec := "flowReach", recurses := true, apart := false }
def FlowReachSaid : Prop := flowReachRow.holds Try.pinned (OpenSpec.ofChange flowReachSpec)

/-- ITS FALSE NEIGHBOUR: 'it returns false'. Refute it at one input. -/
def flowReachWrong : ChangeSpec := { name := "flowReach", fn := fun _ => fun
  | [d1, d2, d3, d4] => { results := [.lit (.bool false)], args := [d1, d2, d3, d4] }
  | _ => none }
def FlowReachWrongFalsely : Prop := flowReachRow.holds Try.pinned (OpenSpec.ofChange flowReachWrong)

/-- 'pluginhostlaw21.FlowRandom': WHATEVER THE INPUT: true; the input reads as it did. -/
def flowRandomSpec : ChangeSpec := { name := "flowRandom", fn := fun _ => fun
  | [d1, d2, d3, d4] => { results := [.lit (.bool true)], args := [d1, d2, d3, d4] }
  | _ => none }
def flowRandomRow : OpenClaim := { program := "ythlhjljgpohgbaa", sum := "d83097a14e601eb05da165b7ba534cf526405a4c36d02f73998146ef57e54991", func := "pluginhost/pluginhostlaw21.FlowRandom", spec := "flowRandom", recurses := true, apart := false }
def FlowRandomSaid : Prop := flowRandomRow.holds Try.pinned (OpenSpec.ofChange flowRandomSpec)

/-- ITS FALSE NEIGHBOUR: 'it returns false'. Refute it at one input. -/
def flowRandomWrong : ChangeSpec := { name := "flowRandom", fn := fun _ => fun
  | [d1, d2, d3, d4] => { results := [.lit (.bool false)], args := [d1, d2, d3, d4] }
  | _ => none }
def FlowRandomWrongFalsely : Prop := flowRandomRow.holds Try.pinned (OpenSpec.ofChange flowRandomWrong)

/-- 'pluginhostlaw21.FlowMade': WHATEVER THE INPUT: true; the input reads as it did. -/
def flowMadeSpec : ChangeSpec := { name := "flowMade", fn := fun _ => fun
  | [d1, d2, d3, d4, d5, d6] => { results := [.lit (.bool true)], args := [d1, d2, d3, d4, d5, d6] }
  | _ => none }
def flowMadeRow : OpenClaim := { program := "ythlhjljgpohgbaa", sum := "d83097a14e601eb05da165b7ba534cf526405a4c36d02f73998146ef57e54991", func := "pluginhost/pluginhostlaw21.FlowMade", spec := "flowMade", recurses := true, apart := false }
def FlowMadeSaid : Prop := flowMadeRow.holds Try.pinned (OpenSpec.ofChange flowMadeSpec)

/-- ITS FALSE NEIGHBOUR: 'it returns false'. Refute it at one input. -/
def flowMadeWrong : ChangeSpec := { name := "flowMade", fn := fun _ => fun
  | [d1, d2, d3, d4, d5, d6] => { results := [.lit (.bool false)], args := [d1, d2, d3, d4, d5, d6] }
  | _ => none }
def FlowMadeWrongFalsely : Prop := flowMadeRow.holds Try.pinned (OpenSpec.ofChange flowMadeWrong)

/-- 'pluginhostlaw21.FlowSame': WHATEVER THE INPUT: true; the input reads as it did. -/
def flowSameSpec : ChangeSpec := { name := "flowSame", fn := fun _ => fun
  | [d1, d2, d3, d4] => { results := [.lit (.bool true)], args := [d1, d2, d3, d4] }
  | _ => none }
def flowSameRow : OpenClaim := { program := "ythlhjljgpohgbaa", sum := "d83097a14e601eb05da165b7ba534cf526405a4c36d02f73998146ef57e54991", func := "pluginhost/pluginhostlaw21.FlowSame", spec := "flowSame", recurses := true, apart := false }
def FlowSameSaid : Prop := flowSameRow.holds Try.pinned (OpenSpec.ofChange flowSameSpec)

/-- ITS FALSE NEIGHBOUR: 'it returns false'. Refute it at one input. -/
def flowSameWrong : ChangeSpec := { name := "flowSame", fn := fun _ => fun
  | [d1, d2, d3, d4] => { results := [.lit (.bool false)], args := [d1, d2, d3, d4] }
  | _ => none }
def FlowSameWrongFalsely : Prop := flowSameRow.holds Try.pinned (OpenSpec.ofChange flowSameWrong)

/- THE SECOND FORM. 'bulk': how many values and letters a reading holds, each counted each time it is reached (what is shared counts as often as it is met; a slice's spare places count too). A statement '..UptoSaid' is the law's where the arguments, and the package variables that the reading takes, are together of bulk at most 1048576: NARROWER than '..Said'. Prove '..Said' where nothing that the law and all that it calls make is longer than what came in: it says more and counts as full. Else prove '..UptoSaid'. A law counts once. -/
mutual
def uptoBulk {H : Type} : DataW H → Nat
  | .lit (.string bytes) => bytes.length + 1
  | .lit _ => 1
  | .nil => 1
  | .ptr d => uptoBulk d + 1
  | .slice elems spare => uptoBulkAll elems + uptoBulkAll spare + 1
  | .agg parts => uptoBulkAll parts + 1
  | .iface _ d => uptoBulk d + 1
  | .map entries => uptoBulkEntries entries + 1
  | .held _ => 1
def uptoBulkAll {H : Type} : List (DataW H) → Nat
  | [] => 0
  | d :: r => uptoBulk d + uptoBulkAll r
def uptoBulkEntries {H : Type} : List (Lit × DataW H) → Nat
  | [] => 0
  | x :: r => uptoBulkEntry x + uptoBulkEntries r
def uptoBulkEntry {H : Type} : Lit × DataW H → Nat
  | (.string bytes, d) => bytes.length + uptoBulk d + 1
  | (_, d) => uptoBulk d + 1
 end
def uptoSmall : (H : Type) → List (DataW H) → Bool := fun _ ds => decide (uptoBulkAll ds ≤ 1048576)
def OpenSpec.upto (s : _root_.Go.ChangeSpec) : _root_.Go.OpenSpec := { _root_.Go.OpenSpec.ofChange s with cond := some uptoSmall }

/-- 'pluginhostlaw21.FlowDeep', WHERE WHAT IT READS IS OF BULK AT MOST 1048576: true; the input reads as it did. -/
def flowDeepUptoRow : OpenClaim := { program := "ythlhjljgpohgbaa", sum := "d83097a14e601eb05da165b7ba534cf526405a4c36d02f73998146ef57e54991", func := "pluginhost/pluginhostlaw21.FlowDeep", spec := "flowDeep", recurses := true, apart := false, narrowed := true }
def FlowDeepUptoSaid : Prop := flowDeepUptoRow.holds Try.pinned (OpenSpec.upto flowDeepSpec)

/-- 'pluginhostlaw21.FlowReach', WHERE WHAT IT READS IS OF BULK AT MOST 1048576: true; the input reads as it did. -/
def flowReachUptoRow : OpenClaim := { program := "ythlhjljgpohgbaa", sum := "d83097a14e601eb05da165b7ba534cf526405a4c36d02f73998146ef57e54991", func := "pluginhost/pluginhostlaw21.FlowReach", spec := "flowReach", recurses := true, apart := false, narrowed := true }
def FlowReachUptoSaid : Prop := flowReachUptoRow.holds Try.pinned (OpenSpec.upto flowReachSpec)

/-- 'pluginhostlaw21.FlowRandom', WHERE WHAT IT READS IS OF BULK AT MOST 1048576: true; the input reads as it did. -/
def flowRandomUptoRow : OpenClaim := { program := "ythlhjljgpohgbaa", sum := "d83097a14e601eb05da165b7ba534cf526405a4c36d02f73998146ef57e54991", func := "pluginhost/pluginhostlaw21.FlowRandom", spec := "flowRandom", recurses := true, apart := false, narrowed := true }
def FlowRandomUptoSaid : Prop := flowRandomUptoRow.holds Try.pinned (OpenSpec.upto flowRandomSpec)

/-- 'pluginhostlaw21.FlowMade', WHERE WHAT IT READS IS OF BULK AT MOST 1048576: true; the input reads as it did. -/
def flowMadeUptoRow : OpenClaim := { program := "ythlhjljgpohgbaa", sum := "d83097a14e601eb05da165b7ba534cf526405a4c36d02f73998146ef57e54991", func := "pluginhost/pluginhostlaw21.FlowMade", spec := "flowMade", recurses := true, apart := false, narrowed := true }
def FlowMadeUptoSaid : Prop := flowMadeUptoRow.holds Try.pinned (OpenSpec.upto flowMadeSpec)

/-- 'pluginhostlaw21.FlowSame', WHERE WHAT IT READS IS OF BULK AT MOST 1048576: true; the input reads as it did. -/
def flowSameUptoRow : OpenClaim := { program := "ythlhjljgpohgbaa", sum := "d83097a14e601eb05da165b7ba534cf526405a4c36d02f73998146ef57e54991", func := "pluginhost/pluginhostlaw21.FlowSame", spec := "flowSame", recurses := true, apart := false, narrowed := true }
def FlowSameUptoSaid : Prop := flowSameUptoRow.holds Try.pinned (OpenSpec.upto flowSameSpec)

end Rows
end Go.Proofs.Ythlhjljgpohgbaa
