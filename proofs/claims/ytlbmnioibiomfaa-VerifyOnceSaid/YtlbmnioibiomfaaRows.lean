/-
  No cell of these rows narrows 'for every input' (looked for: loops, veiled, ifaces, maps, wideKeys, modest, calm, conditions, laid).
  DERIVED. THE GIVEN ROWS OF THIS SEAT. 5 by the template 'for every input the law returns true; each argument reads behind the call as it read before'; 0 by the template 'total and deterministic' (their statements: YtlbmnioibiomfaaTotals.lean).
  GIVEN WITH THE SEED: the statements are not yours to turn. If you find one false, say at which input.
  Laid BY PROGRAM, IN A SANDBOX (cutbox-rows.mjs): the forced cells as the released guide's own fill.sh prints them over the translation 99900c40ccf61d95… (all of the seat's roots in one cut). By AI agents, Wed Nov 11 2026. No macro, syntax, notation, axiom, sorry.
-/
import Derived.Test.YtlbmnioibiomfaaChecked
import GoSem.Claim
import GoSem.ClaimJoined
import GoSem.ClaimMapViews
import Derived.JoinedTies
import Derived.KernelRfl
namespace Go.Proofs.Ytlbmnioibiomfaa
/- THE CELL 'sum', in the pinned program and in every row, IS THE sha256 OF THE DUMP (.gsa) THAT YtlbmnioibiomfaaProg.lean LOADS. Nothing in Lean hashes anything: it is a label: what it is worth is what the hold of that sum in a sandbox is worth. -/
noncomputable def Try.pinned : Pinned := { name := "ytlbmnioibiomfaa", sum := "99900c40ccf61d953695fa2e37f8c96e69a713322e044b92c8735fbae1bd1e6d", checked := Try.checked }
namespace Rows
def none {H : Type} : Left H := { results := [], args := [] }

/-- 'pluginhostlaw22.VerifyOnce': WHATEVER THE INPUT: true; the input reads as it did. -/
def verifyOnceSpec : ChangeSpec := { name := "verifyOnce", fn := fun _ => fun
  | [d1, d2, d3] => { results := [.lit (.bool true)], args := [d1, d2, d3] }
  | _ => none }
def verifyOnceRow : OpenClaim := { program := "ytlbmnioibiomfaa", sum := "99900c40ccf61d953695fa2e37f8c96e69a713322e044b92c8735fbae1bd1e6d", func := "pluginhost/pluginhostlaw22.VerifyOnce", spec := "verifyOnce", recurses := true, apart := false }
def VerifyOnceSaid : Prop := verifyOnceRow.holds Try.pinned (OpenSpec.ofChange verifyOnceSpec)

/-- ITS FALSE NEIGHBOUR: 'it returns false'. Refute it at one input. -/
def verifyOnceWrong : ChangeSpec := { name := "verifyOnce", fn := fun _ => fun
  | [d1, d2, d3] => { results := [.lit (.bool false)], args := [d1, d2, d3] }
  | _ => none }
def VerifyOnceWrongFalsely : Prop := verifyOnceRow.holds Try.pinned (OpenSpec.ofChange verifyOnceWrong)

/-- 'pluginhostlaw22.VerifyParts': WHATEVER THE INPUT: true; the input reads as it did. -/
def verifyPartsSpec : ChangeSpec := { name := "verifyParts", fn := fun _ => fun
  | [d1, d2, d3, d4] => { results := [.lit (.bool true)], args := [d1, d2, d3, d4] }
  | _ => none }
def verifyPartsRow : OpenClaim := { program := "ytlbmnioibiomfaa", sum := "99900c40ccf61d953695fa2e37f8c96e69a713322e044b92c8735fbae1bd1e6d", func := "pluginhost/pluginhostlaw22.VerifyParts", spec := "verifyParts", recurses := true, apart := false }
def VerifyPartsSaid : Prop := verifyPartsRow.holds Try.pinned (OpenSpec.ofChange verifyPartsSpec)

/-- ITS FALSE NEIGHBOUR: 'it returns false'. Refute it at one input. -/
def verifyPartsWrong : ChangeSpec := { name := "verifyParts", fn := fun _ => fun
  | [d1, d2, d3, d4] => { results := [.lit (.bool false)], args := [d1, d2, d3, d4] }
  | _ => none }
def VerifyPartsWrongFalsely : Prop := verifyPartsRow.holds Try.pinned (OpenSpec.ofChange verifyPartsWrong)

/-- 'pluginhostlaw22.VerifyMade': WHATEVER THE INPUT: true; the input reads as it did. -/
def verifyMadeSpec : ChangeSpec := { name := "verifyMade", fn := fun _ => fun
  | [d1, d2, d3, d4, d5] => { results := [.lit (.bool true)], args := [d1, d2, d3, d4, d5] }
  | _ => none }
def verifyMadeRow : OpenClaim := { program := "ytlbmnioibiomfaa", sum := "99900c40ccf61d953695fa2e37f8c96e69a713322e044b92c8735fbae1bd1e6d", func := "pluginhost/pluginhostlaw22.VerifyMade", spec := "verifyMade", recurses := true, apart := false }
def VerifyMadeSaid : Prop := verifyMadeRow.holds Try.pinned (OpenSpec.ofChange verifyMadeSpec)

/-- ITS FALSE NEIGHBOUR: 'it returns false'. Refute it at one input. -/
def verifyMadeWrong : ChangeSpec := { name := "verifyMade", fn := fun _ => fun
  | [d1, d2, d3, d4, d5] => { results := [.lit (.bool false)], args := [d1, d2, d3, d4, d5] }
  | _ => none }
def VerifyMadeWrongFalsely : Prop := verifyMadeRow.holds Try.pinned (OpenSpec.ofChange verifyMadeWrong)

/-- 'pluginhostlaw22.VerifyRaw': WHATEVER THE INPUT: true; the input reads as it did. -/
def verifyRawSpec : ChangeSpec := { name := "verifyRaw", fn := fun _ => fun
  | [d1, d2] => { results := [.lit (.bool true)], args := [d1, d2] }
  | _ => none }
def verifyRawRow : OpenClaim := { program := "ytlbmnioibiomfaa", sum := "99900c40ccf61d953695fa2e37f8c96e69a713322e044b92c8735fbae1bd1e6d", func := "pluginhost/pluginhostlaw22.VerifyRaw", spec := "verifyRaw", recurses := true, apart := false }
def VerifyRawSaid : Prop := verifyRawRow.holds Try.pinned (OpenSpec.ofChange verifyRawSpec)

/-- ITS FALSE NEIGHBOUR: 'it returns false'. Refute it at one input. -/
def verifyRawWrong : ChangeSpec := { name := "verifyRaw", fn := fun _ => fun
  | [d1, d2] => { results := [.lit (.bool false)], args := [d1, d2] }
  | _ => none }
def VerifyRawWrongFalsely : Prop := verifyRawRow.holds Try.pinned (OpenSpec.ofChange verifyRawWrong)

/-- 'pluginhostlaw22.VerifyCalls': WHATEVER THE INPUT: true; the input reads as it did. -/
def verifyCallsSpec : ChangeSpec := { name := "verifyCalls", fn := fun _ => fun
  | [d1, d2] => { results := [.lit (.bool true)], args := [d1, d2] }
  | _ => none }
def verifyCallsRow : OpenClaim := { program := "ytlbmnioibiomfaa", sum := "99900c40ccf61d953695fa2e37f8c96e69a713322e044b92c8735fbae1bd1e6d", func := "pluginhost/pluginhostlaw22.VerifyCalls", spec := "verifyCalls", recurses := true, apart := false }
def VerifyCallsSaid : Prop := verifyCallsRow.holds Try.pinned (OpenSpec.ofChange verifyCallsSpec)

/-- ITS FALSE NEIGHBOUR: 'it returns false'. Refute it at one input. -/
def verifyCallsWrong : ChangeSpec := { name := "verifyCalls", fn := fun _ => fun
  | [d1, d2] => { results := [.lit (.bool false)], args := [d1, d2] }
  | _ => none }
def VerifyCallsWrongFalsely : Prop := verifyCallsRow.holds Try.pinned (OpenSpec.ofChange verifyCallsWrong)

/- THE SECOND FORM. 'bulk': how many values and letters a reading holds, each counted each time it is reached (what is shared counts as often as it is met; a slice's spare places count too). A statement '..UptoSaid' is the law's where the arguments, and the package variables that the reading takes, are together of bulk at most 1048576: NARROWER than '..Said'. Prove '..Said' where nothing that the law and all that it calls make is longer than what came in: it says more and counts as full. Else prove '..UptoSaid'. A law counts once. -/
mutual
def uptoBulk {H : Type} : DataW H → Nat
  | .lit (.string bytes) => bytes.length + 1
  | .lit _ => 1
  | .nil => 1
  | .ptr d => uptoBulk d + 1
  | .slice elems spare => uptoBulkAll elems + uptoBulkAll spare + 1
  | .agg parts => uptoBulkAll parts + 1
  | .iface _ d => uptoBulk d + 1
  | .map entries => uptoBulkEntries entries + 1
  | .held _ => 1
def uptoBulkAll {H : Type} : List (DataW H) → Nat
  | [] => 0
  | d :: r => uptoBulk d + uptoBulkAll r
def uptoBulkEntries {H : Type} : List (Lit × DataW H) → Nat
  | [] => 0
  | x :: r => uptoBulkEntry x + uptoBulkEntries r
def uptoBulkEntry {H : Type} : Lit × DataW H → Nat
  | (.string bytes, d) => bytes.length + uptoBulk d + 1
  | (_, d) => uptoBulk d + 1
 end
def uptoSmall : (H : Type) → List (DataW H) → Bool := fun _ ds => decide (uptoBulkAll ds ≤ 1048576)
def OpenSpec.upto (s : _root_.Go.ChangeSpec) : _root_.Go.OpenSpec := { _root_.Go.OpenSpec.ofChange s with cond := some uptoSmall }

/-- 'pluginhostlaw22.VerifyOnce', WHERE WHAT IT READS IS OF BULK AT MOST 1048576: true; the input reads as it did. -/
def verifyOnceUptoRow : OpenClaim := { program := "ytlbmnioibiomfaa", sum := "99900c40ccf61d953695fa2e37f8c96e69a713322e044b92c8735fbae1bd1e6d", func := "pluginhost/pluginhostlaw22.VerifyOnce", spec := "verifyOnce", recurses := true, apart := false, narrowed := true }
def VerifyOnceUptoSaid : Prop := verifyOnceUptoRow.holds Try.pinned (OpenSpec.upto verifyOnceSpec)

/-- 'pluginhostlaw22.VerifyParts', WHERE WHAT IT READS IS OF BULK AT MOST 1048576: true; the input reads as it did. -/
def verifyPartsUptoRow : OpenClaim := { program := "ytlbmnioibiomfaa", sum := "99900c40ccf61d953695fa2e37f8c96e69a713322e044b92c8735fbae1bd1e6d", func := "pluginhost/pluginhostlaw22.VerifyParts", spec := "verifyParts", recurses := true, apart := false, narrowed := true }
def VerifyPartsUptoSaid : Prop := verifyPartsUptoRow.holds Try.pinned (OpenSpec.upto verifyPartsSpec)

/-- 'pluginhostlaw22.VerifyMade', WHERE WHAT IT READS IS OF BULK AT MOST 1048576: true; the input reads as it did. -/
def verifyMadeUptoRow : OpenClaim := { program := "ytlbmnioibiomfaa", sum := "99900c40ccf61d953695fa2e37f8c96e69a713322e044b92c8735fbae1bd1e6d", func := "pluginhost/pluginhostlaw22.VerifyMade", spec := "verifyMade", recurses := true, apart := false, narrowed := true }
def VerifyMadeUptoSaid : Prop := verifyMadeUptoRow.holds Try.pinned (OpenSpec.upto verifyMadeSpec)

/-- 'pluginhostlaw22.VerifyRaw', WHERE WHAT IT READS IS OF BULK AT MOST 1048576: true; the input reads as it did. -/
def verifyRawUptoRow : OpenClaim := { program := "ytlbmnioibiomfaa", sum := "99900c40ccf61d953695fa2e37f8c96e69a713322e044b92c8735fbae1bd1e6d", func := "pluginhost/pluginhostlaw22.VerifyRaw", spec := "verifyRaw", recurses := true, apart := false, narrowed := true }
def VerifyRawUptoSaid : Prop := verifyRawUptoRow.holds Try.pinned (OpenSpec.upto verifyRawSpec)

/-- 'pluginhostlaw22.VerifyCalls', WHERE WHAT IT READS IS OF BULK AT MOST 1048576: true; the input reads as it did. -/
def verifyCallsUptoRow : OpenClaim := { program := "ytlbmnioibiomfaa", sum := "99900c40ccf61d953695fa2e37f8c96e69a713322e044b92c8735fbae1bd1e6d", func := "pluginhost/pluginhostlaw22.VerifyCalls", spec := "verifyCalls", recurses := true, apart := false, narrowed := true }
def VerifyCallsUptoSaid : Prop := verifyCallsUptoRow.holds Try.pinned (OpenSpec.upto verifyCallsSpec)

end Rows
end Go.Proofs.Ytlbmnioibiomfaa
