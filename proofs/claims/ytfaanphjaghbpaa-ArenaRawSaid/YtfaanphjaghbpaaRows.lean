/-
  No cell of these rows narrows 'for every input' (looked for: loops, veiled, ifaces, maps, wideKeys, modest, calm, conditions, laid).
  DERIVED. THE GIVEN ROWS OF THIS SEAT. 7 by the template 'for every input the law returns true; each argument reads behind the call as it read before'; 0 by the template 'total and deterministic' (their statements: YtfaanphjaghbpaaTotals.lean).
  GIVEN WITH THE SEED: the statements are not yours to turn. If you find one false, say at which input.
  Laid BY PROGRAM, IN A SANDBOX (cutbox-rows.mjs): the forced cells as the released guide's own fill.sh prints them over the translation 3c04a106fd09ef19… (all of the seat's roots in one cut). By AI agents, Wed Nov 11 2026. No macro, syntax, notation, axiom, sorry.
-/
import Derived.Test.YtfaanphjaghbpaaChecked
import GoSem.Claim
import GoSem.ClaimJoined
import GoSem.ClaimMapViews
import Derived.JoinedTies
import Derived.KernelRfl
namespace Go.Proofs.Ytfaanphjaghbpaa
/- THE CELL 'sum', in the pinned program and in every row, IS THE sha256 OF THE DUMP (.gsa) THAT YtfaanphjaghbpaaProg.lean LOADS. Nothing in Lean hashes anything: it is a label: what it is worth is what the hold of that sum in a sandbox is worth. -/
noncomputable def Try.pinned : Pinned := { name := "ytfaanphjaghbpaa", sum := "3c04a106fd09ef193104995c1295c7cbc319b7c6e92e6c3773f74c226e4979bf", checked := Try.checked }
namespace Rows
def none {H : Type} : Left H := { results := [], args := [] }

/-- 'pluginhostlaw7.ArenaLittle': WHATEVER THE INPUT: true; the input reads as it did. -/
def arenaLittleSpec : ChangeSpec := { name := "arenaLittle", fn := fun _ => fun
  | [d1, d2, d3, d4] => { results := [.lit (.bool true)], args := [d1, d2, d3, d4] }
  | _ => none }
def arenaLittleRow : OpenClaim := { program := "ytfaanphjaghbpaa", sum := "3c04a106fd09ef193104995c1295c7cbc319b7c6e92e6c3773f74c226e4979bf", func := "pluginhost/pluginhostlaw7.ArenaLittle", spec := "arenaLittle", unfollowed := true, recurses := true, apart := false }
def ArenaLittleSaid : Prop := arenaLittleRow.holds Try.pinned (OpenSpec.ofChange arenaLittleSpec)

/-- ITS FALSE NEIGHBOUR: 'it returns false'. Refute it at one input. -/
def arenaLittleWrong : ChangeSpec := { name := "arenaLittle", fn := fun _ => fun
  | [d1, d2, d3, d4] => { results := [.lit (.bool false)], args := [d1, d2, d3, d4] }
  | _ => none }
def ArenaLittleWrongFalsely : Prop := arenaLittleRow.holds Try.pinned (OpenSpec.ofChange arenaLittleWrong)

/-- 'pluginhostlaw7.ArenaMoves': WHATEVER THE INPUT: true; the input reads as it did. -/
def arenaMovesSpec : ChangeSpec := { name := "arenaMoves", fn := fun _ => fun
  | [d1, d2, d3, d4] => { results := [.lit (.bool true)], args := [d1, d2, d3, d4] }
  | _ => none }
def arenaMovesRow : OpenClaim := { program := "ytfaanphjaghbpaa", sum := "3c04a106fd09ef193104995c1295c7cbc319b7c6e92e6c3773f74c226e4979bf", func := "pluginhost/pluginhostlaw7.ArenaMoves", spec := "arenaMoves", unfollowed := true, recurses := true, apart := false }
def ArenaMovesSaid : Prop := arenaMovesRow.holds Try.pinned (OpenSpec.ofChange arenaMovesSpec)

/-- ITS FALSE NEIGHBOUR: 'it returns false'. Refute it at one input. -/
def arenaMovesWrong : ChangeSpec := { name := "arenaMoves", fn := fun _ => fun
  | [d1, d2, d3, d4] => { results := [.lit (.bool false)], args := [d1, d2, d3, d4] }
  | _ => none }
def ArenaMovesWrongFalsely : Prop := arenaMovesRow.holds Try.pinned (OpenSpec.ofChange arenaMovesWrong)

/-- 'pluginhostlaw7.ArenaApart': WHATEVER THE INPUT: true; the input reads as it did. -/
def arenaApartSpec : ChangeSpec := { name := "arenaApart", fn := fun _ => fun
  | [d1, d2, d3, d4] => { results := [.lit (.bool true)], args := [d1, d2, d3, d4] }
  | _ => none }
def arenaApartRow : OpenClaim := { program := "ytfaanphjaghbpaa", sum := "3c04a106fd09ef193104995c1295c7cbc319b7c6e92e6c3773f74c226e4979bf", func := "pluginhost/pluginhostlaw7.ArenaApart", spec := "arenaApart", unfollowed := true, recurses := true, apart := false }
def ArenaApartSaid : Prop := arenaApartRow.holds Try.pinned (OpenSpec.ofChange arenaApartSpec)

/-- ITS FALSE NEIGHBOUR: 'it returns false'. Refute it at one input. -/
def arenaApartWrong : ChangeSpec := { name := "arenaApart", fn := fun _ => fun
  | [d1, d2, d3, d4] => { results := [.lit (.bool false)], args := [d1, d2, d3, d4] }
  | _ => none }
def ArenaApartWrongFalsely : Prop := arenaApartRow.holds Try.pinned (OpenSpec.ofChange arenaApartWrong)

/-- 'pluginhostlaw7.ArenaPlays': WHATEVER THE INPUT: true; the input reads as it did. -/
def arenaPlaysSpec : ChangeSpec := { name := "arenaPlays", fn := fun _ => fun
  | [d1, d2] => { results := [.lit (.bool true)], args := [d1, d2] }
  | _ => none }
def arenaPlaysRow : OpenClaim := { program := "ytfaanphjaghbpaa", sum := "3c04a106fd09ef193104995c1295c7cbc319b7c6e92e6c3773f74c226e4979bf", func := "pluginhost/pluginhostlaw7.ArenaPlays", spec := "arenaPlays", unfollowed := true, recurses := true, apart := false }
def ArenaPlaysSaid : Prop := arenaPlaysRow.holds Try.pinned (OpenSpec.ofChange arenaPlaysSpec)

/-- ITS FALSE NEIGHBOUR: 'it returns false'. Refute it at one input. -/
def arenaPlaysWrong : ChangeSpec := { name := "arenaPlays", fn := fun _ => fun
  | [d1, d2] => { results := [.lit (.bool false)], args := [d1, d2] }
  | _ => none }
def ArenaPlaysWrongFalsely : Prop := arenaPlaysRow.holds Try.pinned (OpenSpec.ofChange arenaPlaysWrong)

/-- 'pluginhostlaw7.ArenaRaw': WHATEVER THE INPUT: true; the input reads as it did. -/
def arenaRawSpec : ChangeSpec := { name := "arenaRaw", fn := fun _ => fun
  | [d1, d2, d3, d4, d5, d6, d7, d8, d9] => { results := [.lit (.bool true)], args := [d1, d2, d3, d4, d5, d6, d7, d8, d9] }
  | _ => none }
def arenaRawRow : OpenClaim := { program := "ytfaanphjaghbpaa", sum := "3c04a106fd09ef193104995c1295c7cbc319b7c6e92e6c3773f74c226e4979bf", func := "pluginhost/pluginhostlaw7.ArenaRaw", spec := "arenaRaw", unfollowed := true, recurses := true, apart := false }
def ArenaRawSaid : Prop := arenaRawRow.holds Try.pinned (OpenSpec.ofChange arenaRawSpec)

/-- ITS FALSE NEIGHBOUR: 'it returns false'. Refute it at one input. -/
def arenaRawWrong : ChangeSpec := { name := "arenaRaw", fn := fun _ => fun
  | [d1, d2, d3, d4, d5, d6, d7, d8, d9] => { results := [.lit (.bool false)], args := [d1, d2, d3, d4, d5, d6, d7, d8, d9] }
  | _ => none }
def ArenaRawWrongFalsely : Prop := arenaRawRow.holds Try.pinned (OpenSpec.ofChange arenaRawWrong)

/-- 'pluginhostlaw7.ArenaNone': WHATEVER THE INPUT: true; the input reads as it did. -/
def arenaNoneSpec : ChangeSpec := { name := "arenaNone", fn := fun _ => fun
  | [d1, d2, d3, d4] => { results := [.lit (.bool true)], args := [d1, d2, d3, d4] }
  | _ => none }
def arenaNoneRow : OpenClaim := { program := "ytfaanphjaghbpaa", sum := "3c04a106fd09ef193104995c1295c7cbc319b7c6e92e6c3773f74c226e4979bf", func := "pluginhost/pluginhostlaw7.ArenaNone", spec := "arenaNone", unfollowed := true, recurses := true, apart := false }
def ArenaNoneSaid : Prop := arenaNoneRow.holds Try.pinned (OpenSpec.ofChange arenaNoneSpec)

/-- ITS FALSE NEIGHBOUR: 'it returns false'. Refute it at one input. -/
def arenaNoneWrong : ChangeSpec := { name := "arenaNone", fn := fun _ => fun
  | [d1, d2, d3, d4] => { results := [.lit (.bool false)], args := [d1, d2, d3, d4] }
  | _ => none }
def ArenaNoneWrongFalsely : Prop := arenaNoneRow.holds Try.pinned (OpenSpec.ofChange arenaNoneWrong)

/-- 'pluginhostlaw7.ArenaZero': WHATEVER THE INPUT: true; the input reads as it did. -/
def arenaZeroSpec : ChangeSpec := { name := "arenaZero", fn := fun _ => fun
  | [d1, d2, d3] => { results := [.lit (.bool true)], args := [d1, d2, d3] }
  | _ => none }
def arenaZeroRow : OpenClaim := { program := "ytfaanphjaghbpaa", sum := "3c04a106fd09ef193104995c1295c7cbc319b7c6e92e6c3773f74c226e4979bf", func := "pluginhost/pluginhostlaw7.ArenaZero", spec := "arenaZero", unfollowed := true, recurses := true, apart := false }
def ArenaZeroSaid : Prop := arenaZeroRow.holds Try.pinned (OpenSpec.ofChange arenaZeroSpec)

/-- ITS FALSE NEIGHBOUR: 'it returns false'. Refute it at one input. -/
def arenaZeroWrong : ChangeSpec := { name := "arenaZero", fn := fun _ => fun
  | [d1, d2, d3] => { results := [.lit (.bool false)], args := [d1, d2, d3] }
  | _ => none }
def ArenaZeroWrongFalsely : Prop := arenaZeroRow.holds Try.pinned (OpenSpec.ofChange arenaZeroWrong)

/- THE SECOND FORM. 'bulk': how many values and letters a reading holds, each counted each time it is reached (what is shared counts as often as it is met; a slice's spare places count too). A statement '..UptoSaid' is the law's where the arguments, and the package variables that the reading takes, are together of bulk at most 1048576: NARROWER than '..Said'. Prove '..Said' where nothing that the law and all that it calls make is longer than what came in: it says more and counts as full. Else prove '..UptoSaid'. A law counts once. -/
mutual
def uptoBulk {H : Type} : DataW H → Nat
  | .lit (.string bytes) => bytes.length + 1
  | .lit _ => 1
  | .nil => 1
  | .ptr d => uptoBulk d + 1
  | .slice elems spare => uptoBulkAll elems + uptoBulkAll spare + 1
  | .agg parts => uptoBulkAll parts + 1
  | .iface _ d => uptoBulk d + 1
  | .map entries => uptoBulkEntries entries + 1
  | .held _ => 1
def uptoBulkAll {H : Type} : List (DataW H) → Nat
  | [] => 0
  | d :: r => uptoBulk d + uptoBulkAll r
def uptoBulkEntries {H : Type} : List (Lit × DataW H) → Nat
  | [] => 0
  | x :: r => uptoBulkEntry x + uptoBulkEntries r
def uptoBulkEntry {H : Type} : Lit × DataW H → Nat
  | (.string bytes, d) => bytes.length + uptoBulk d + 1
  | (_, d) => uptoBulk d + 1
 end
def uptoSmall : (H : Type) → List (DataW H) → Bool := fun _ ds => decide (uptoBulkAll ds ≤ 1048576)
def OpenSpec.upto (s : _root_.Go.ChangeSpec) : _root_.Go.OpenSpec := { _root_.Go.OpenSpec.ofChange s with cond := some uptoSmall }

/-- 'pluginhostlaw7.ArenaLittle', WHERE WHAT IT READS IS OF BULK AT MOST 1048576: true; the input reads as it did. -/
def arenaLittleUptoRow : OpenClaim := { program := "ytfaanphjaghbpaa", sum := "3c04a106fd09ef193104995c1295c7cbc319b7c6e92e6c3773f74c226e4979bf", func := "pluginhost/pluginhostlaw7.ArenaLittle", spec := "arenaLittle", unfollowed := true, recurses := true, apart := false, narrowed := true }
def ArenaLittleUptoSaid : Prop := arenaLittleUptoRow.holds Try.pinned (OpenSpec.upto arenaLittleSpec)

/-- 'pluginhostlaw7.ArenaMoves', WHERE WHAT IT READS IS OF BULK AT MOST 1048576: true; the input reads as it did. -/
def arenaMovesUptoRow : OpenClaim := { program := "ytfaanphjaghbpaa", sum := "3c04a106fd09ef193104995c1295c7cbc319b7c6e92e6c3773f74c226e4979bf", func := "pluginhost/pluginhostlaw7.ArenaMoves", spec := "arenaMoves", unfollowed := true, recurses := true, apart := false, narrowed := true }
def ArenaMovesUptoSaid : Prop := arenaMovesUptoRow.holds Try.pinned (OpenSpec.upto arenaMovesSpec)

/-- 'pluginhostlaw7.ArenaApart', WHERE WHAT IT READS IS OF BULK AT MOST 1048576: true; the input reads as it did. -/
def arenaApartUptoRow : OpenClaim := { program := "ytfaanphjaghbpaa", sum := "3c04a106fd09ef193104995c1295c7cbc319b7c6e92e6c3773f74c226e4979bf", func := "pluginhost/pluginhostlaw7.ArenaApart", spec := "arenaApart", unfollowed := true, recurses := true, apart := false, narrowed := true }
def ArenaApartUptoSaid : Prop := arenaApartUptoRow.holds Try.pinned (OpenSpec.upto arenaApartSpec)

/-- 'pluginhostlaw7.ArenaPlays', WHERE WHAT IT READS IS OF BULK AT MOST 1048576: true; the input reads as it did. -/
def arenaPlaysUptoRow : OpenClaim := { program := "ytfaanphjaghbpaa", sum := "3c04a106fd09ef193104995c1295c7cbc319b7c6e92e6c3773f74c226e4979bf", func := "pluginhost/pluginhostlaw7.ArenaPlays", spec := "arenaPlays", unfollowed := true, recurses := true, apart := false, narrowed := true }
def ArenaPlaysUptoSaid : Prop := arenaPlaysUptoRow.holds Try.pinned (OpenSpec.upto arenaPlaysSpec)

/-- 'pluginhostlaw7.ArenaRaw', WHERE WHAT IT READS IS OF BULK AT MOST 1048576: true; the input reads as it did. -/
def arenaRawUptoRow : OpenClaim := { program := "ytfaanphjaghbpaa", sum := "3c04a106fd09ef193104995c1295c7cbc319b7c6e92e6c3773f74c226e4979bf", func := "pluginhost/pluginhostlaw7.ArenaRaw", spec := "arenaRaw", unfollowed := true, recurses := true, apart := false, narrowed := true }
def ArenaRawUptoSaid : Prop := arenaRawUptoRow.holds Try.pinned (OpenSpec.upto arenaRawSpec)

/-- 'pluginhostlaw7.ArenaNone', WHERE WHAT IT READS IS OF BULK AT MOST 1048576: true; the input reads as it did. -/
def arenaNoneUptoRow : OpenClaim := { program := "ytfaanphjaghbpaa", sum := "3c04a106fd09ef193104995c1295c7cbc319b7c6e92e6c3773f74c226e4979bf", func := "pluginhost/pluginhostlaw7.ArenaNone", spec := "arenaNone", unfollowed := true, recurses := true, apart := false, narrowed := true }
def ArenaNoneUptoSaid : Prop := arenaNoneUptoRow.holds Try.pinned (OpenSpec.upto arenaNoneSpec)

/-- 'pluginhostlaw7.ArenaZero', WHERE WHAT IT READS IS OF BULK AT MOST 1048576: true; the input reads as it did. -/
def arenaZeroUptoRow : OpenClaim := { program := "ytfaanphjaghbpaa", sum := "3c04a106fd09ef193104995c1295c7cbc319b7c6e92e6c3773f74c226e4979bf", func := "pluginhost/pluginhostlaw7.ArenaZero", spec := "arenaZero", unfollowed := true, recurses := true, apart := false, narrowed := true }
def ArenaZeroUptoSaid : Prop := arenaZeroUptoRow.holds Try.pinned (OpenSpec.upto arenaZeroSpec)

end Rows
end Go.Proofs.Ytfaanphjaghbpaa
