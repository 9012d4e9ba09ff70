/- pluginhostmake: Next, Field, Type, Of. -/
import Derived.Test.YtfaanphjaghbpaaMkPlain
namespace Go.Proofs.Ytfaanphjaghbpaa
open Go.RowKit Go.Shelf
set_option linter.unusedVariables false
set_option linter.unusedSimpArgs false
set_option maxRecDepth 100000

def tape (A : Option Addr) (n c i : Nat) : List Value := [.slice A n c, .int .i64 (i : Int)]
set_option maxRecDepth 100000 in
theorem sMake1 : type_of% (And.intro (And.intro @fdV.eq_1 @tyV.eq_1) (And.intro @tape.eq_1 @Nat.mul_one)) := (And.intro (And.intro @fdV.eq_1 @tyV.eq_1) (And.intro @tape.eq_1 @Nat.mul_one))
end Go.Proofs.Ytfaanphjaghbpaa
