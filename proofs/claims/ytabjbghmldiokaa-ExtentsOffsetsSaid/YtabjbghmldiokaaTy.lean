/- Closed facts of this seat's types and functions, as the engine asks them (printed by wip/tyfacts.py). -/
import Derived.Test.YtabjbghmldiokaaEng7
namespace Go.Proofs.Ytabjbghmldiokaa
open Go.RowKit Go.Shelf
set_option maxRecDepth 100000

theorem ty0 : tsz Try.prog 24 = some (true, 2) := by kernel_rfl
theorem ty1 : tint Try.prog 3 = some .i64 := by kernel_rfl
theorem ty2 : (Program.underlying Try.prog 5).isSome = true := by kernel_rfl
theorem ty3 : tst Try.prog 24 = some ([(0, 1), (1, 1)], [.int .i64 0, .int .i64 0]) := by kernel_rfl
theorem ty4 : tzero Try.prog 24 = some [.int .i64 0, .int .i64 0] := by kernel_rfl
theorem ty5 : tkind Try.prog 4 = 1 := by kernel_rfl
theorem ty6 : tzero Try.prog 4 = some [.bool false] := by kernel_rfl
theorem ty7 : tsz Try.prog 4 = some (false, 1) := by kernel_rfl
theorem ty8 : tzero Try.prog 22 = some [.slice none 0 0] := by kernel_rfl
theorem ty9 : tsz Try.prog 22 = some (false, 1) := by kernel_rfl
theorem ty10 : tzero Try.prog 3 = some [.int .i64 0] := by kernel_rfl
theorem ty11 : tsz Try.prog 3 = some (false, 1) := by kernel_rfl
theorem ty12 : tsz Try.prog 5 = some (false, 1) := by kernel_rfl
theorem ty13 : tkind Try.prog 22 = 3 := by kernel_rfl
theorem ty14 : tsl Try.prog 22 = some (24, 2) := by kernel_rfl
theorem ty15 : tarr Try.prog 22 = none := by kernel_rfl
theorem ty16 : tfo Try.prog 24 0 = some 0 := by kernel_rfl
theorem ty17 : tfo Try.prog 24 1 = some 1 := by kernel_rfl
theorem ty18 : tkind Try.prog 24 = 0 := by kernel_rfl
theorem ty19 : eqOk Try.prog 24 = some 2 := by kernel_rfl
theorem ty20 : tsl Try.prog 62 = some (22, 1) := by kernel_rfl
theorem tap22 : tap Try.prog 22 = some (24, 2, 16) := by kernel_rfl
theorem ty22 : tkind Try.prog 62 = 3 := by kernel_rfl
theorem ty23 : tarr Try.prog 62 = none := by kernel_rfl
theorem ty24 : tkind Try.prog 25 = 3 := by kernel_rfl
theorem ty25 : tsl Try.prog 25 = some (69, 1) := by kernel_rfl
theorem ty26 : tzero Try.prog 69 = some [.int .u16 0] := by kernel_rfl
theorem tap25 : tap Try.prog 25 = some (69, 1, 2) := by kernel_rfl
theorem ty28 : tst Try.prog 66 = some ([(0, 1), (1, 1)], [.slice none 0 0, .int .i64 0]) := by kernel_rfl
theorem ty29 : tint Try.prog 68 = some .u64 := by kernel_rfl
theorem ty30 : (Program.underlying Try.prog 3).isSome = true := by kernel_rfl
theorem ty31 : (Program.underlying Try.prog 68).isSome = true := by kernel_rfl
theorem ty32 : tfo Try.prog 66 1 = some 1 := by kernel_rfl
theorem ty33 : tfo Try.prog 66 0 = some 0 := by kernel_rfl
theorem ty34 : tsz Try.prog 25 = some (false, 1) := by kernel_rfl
theorem ty35 : tarr Try.prog 25 = none := by kernel_rfl
theorem ty36 : tsz Try.prog 69 = some (false, 1) := by kernel_rfl
theorem ty37 : (Program.underlying Try.prog 69).isSome = true := by kernel_rfl
theorem tyA : (tsz Try.prog 24 = some (true, 2)) ∧ (tint Try.prog 3 = some .i64) ∧ ((Program.underlying Try.prog 5).isSome = true) ∧ (tst Try.prog 24 = some ([(0, 1), (1, 1)], [.int .i64 0, .int .i64 0])) ∧ (tzero Try.prog 24 = some [.int .i64 0, .int .i64 0]) ∧ (tkind Try.prog 4 = 1) ∧ (tzero Try.prog 4 = some [.bool false]) ∧ (tsz Try.prog 4 = some (false, 1)) ∧ (tzero Try.prog 22 = some [.slice none 0 0]) ∧ (tsz Try.prog 22 = some (false, 1)) ∧ (tzero Try.prog 3 = some [.int .i64 0]) ∧ (tsz Try.prog 3 = some (false, 1)) ∧ (tsz Try.prog 5 = some (false, 1)) ∧ (tkind Try.prog 22 = 3) ∧ (tsl Try.prog 22 = some (24, 2)) ∧ (tarr Try.prog 22 = none) ∧ (tfo Try.prog 24 0 = some 0) ∧ (tfo Try.prog 24 1 = some 1) ∧ (tkind Try.prog 24 = 0) ∧ (eqOk Try.prog 24 = some 2) ∧ (tsl Try.prog 62 = some (22, 1)) ∧ (tap Try.prog 22 = some (24, 2, 16)) ∧ (tkind Try.prog 62 = 3) ∧ (tarr Try.prog 62 = none) ∧ (tkind Try.prog 25 = 3) ∧ (tsl Try.prog 25 = some (69, 1)) ∧ (tzero Try.prog 69 = some [.int .u16 0]) ∧ (tap Try.prog 25 = some (69, 1, 2)) ∧ (tst Try.prog 66 = some ([(0, 1), (1, 1)], [.slice none 0 0, .int .i64 0])) ∧ (tint Try.prog 68 = some .u64) ∧ ((Program.underlying Try.prog 3).isSome = true) ∧ ((Program.underlying Try.prog 68).isSome = true) ∧ (tfo Try.prog 66 1 = some 1) ∧ (tfo Try.prog 66 0 = some 0) ∧ (tsz Try.prog 25 = some (false, 1)) ∧ (tarr Try.prog 25 = none) ∧ (tsz Try.prog 69 = some (false, 1)) ∧ ((Program.underlying Try.prog 69).isSome = true) := ⟨ty0, ty1, ty2, ty3, ty4, ty5, ty6, ty7, ty8, ty9, ty10, ty11, ty12, ty13, ty14, ty15, ty16, ty17, ty18, ty19, ty20, tap22, ty22, ty23, ty24, ty25, ty26, tap25, ty28, ty29, ty30, ty31, ty32, ty33, ty34, ty35, ty36, ty37⟩
theorem hb2 : hasBody Try.prog 2 = true := by kernel_rfl
theorem hb3 : hasBody Try.prog 3 = true := by kernel_rfl
theorem hb4 : hasBody Try.prog 4 = true := by kernel_rfl
theorem hb5 : hasBody Try.prog 5 = true := by kernel_rfl
theorem hb6 : hasBody Try.prog 6 = true := by kernel_rfl
theorem hb7 : hasBody Try.prog 7 = true := by kernel_rfl
theorem hb8 : hasBody Try.prog 8 = true := by kernel_rfl
theorem hb9 : hasBody Try.prog 9 = true := by kernel_rfl
theorem hb10 : hasBody Try.prog 10 = true := by kernel_rfl
theorem hb11 : hasBody Try.prog 11 = true := by kernel_rfl
theorem hb12 : hasBody Try.prog 12 = true := by kernel_rfl
theorem hb13 : hasBody Try.prog 13 = true := by kernel_rfl
theorem hb14 : hasBody Try.prog 14 = true := by kernel_rfl
theorem hb15 : hasBody Try.prog 15 = true := by kernel_rfl
theorem hb16 : hasBody Try.prog 16 = true := by kernel_rfl
theorem hb17 : hasBody Try.prog 17 = true := by kernel_rfl
theorem hb18 : hasBody Try.prog 18 = true := by kernel_rfl
theorem hb19 : hasBody Try.prog 19 = true := by kernel_rfl
theorem hb20 : hasBody Try.prog 20 = true := by kernel_rfl
theorem hb21 : hasBody Try.prog 21 = true := by kernel_rfl
theorem hb22 : hasBody Try.prog 22 = true := by kernel_rfl
theorem hb23 : hasBody Try.prog 23 = true := by kernel_rfl
theorem hb24 : hasBody Try.prog 24 = true := by kernel_rfl
theorem hb25 : hasBody Try.prog 25 = true := by kernel_rfl
theorem hb26 : hasBody Try.prog 26 = true := by kernel_rfl
theorem hb27 : hasBody Try.prog 27 = true := by kernel_rfl
theorem hb28 : hasBody Try.prog 28 = true := by kernel_rfl
theorem hb29 : hasBody Try.prog 29 = true := by kernel_rfl
theorem hb30 : hasBody Try.prog 30 = true := by kernel_rfl
theorem hb31 : hasBody Try.prog 31 = true := by kernel_rfl
theorem hb32 : hasBody Try.prog 32 = true := by kernel_rfl
theorem hb33 : hasBody Try.prog 33 = true := by kernel_rfl
theorem hb34 : hasBody Try.prog 34 = true := by kernel_rfl
theorem hb35 : hasBody Try.prog 35 = true := by kernel_rfl
theorem hb36 : hasBody Try.prog 36 = true := by kernel_rfl
theorem hb37 : hasBody Try.prog 37 = true := by kernel_rfl
theorem hb38 : hasBody Try.prog 38 = true := by kernel_rfl
theorem hb39 : hasBody Try.prog 39 = true := by kernel_rfl
theorem hb40 : hasBody Try.prog 40 = true := by kernel_rfl
theorem hb41 : hasBody Try.prog 41 = true := by kernel_rfl
theorem hb42 : hasBody Try.prog 42 = true := by kernel_rfl
theorem hb43 : hasBody Try.prog 43 = true := by kernel_rfl
theorem hb44 : hasBody Try.prog 44 = true := by kernel_rfl
theorem hb45 : hasBody Try.prog 45 = true := by kernel_rfl
theorem hb46 : hasBody Try.prog 46 = true := by kernel_rfl
theorem fnA : (hasBody Try.prog 2 = true) ∧ (hasBody Try.prog 3 = true) ∧ (hasBody Try.prog 4 = true) ∧ (hasBody Try.prog 5 = true) ∧ (hasBody Try.prog 6 = true) ∧ (hasBody Try.prog 7 = true) ∧ (hasBody Try.prog 8 = true) ∧ (hasBody Try.prog 9 = true) ∧ (hasBody Try.prog 10 = true) ∧ (hasBody Try.prog 11 = true) ∧ (hasBody Try.prog 12 = true) ∧ (hasBody Try.prog 13 = true) ∧ (hasBody Try.prog 14 = true) ∧ (hasBody Try.prog 15 = true) ∧ (hasBody Try.prog 16 = true) ∧ (hasBody Try.prog 17 = true) ∧ (hasBody Try.prog 18 = true) ∧ (hasBody Try.prog 19 = true) ∧ (hasBody Try.prog 20 = true) ∧ (hasBody Try.prog 21 = true) ∧ (hasBody Try.prog 22 = true) ∧ (hasBody Try.prog 23 = true) ∧ (hasBody Try.prog 24 = true) ∧ (hasBody Try.prog 25 = true) ∧ (hasBody Try.prog 26 = true) ∧ (hasBody Try.prog 27 = true) ∧ (hasBody Try.prog 28 = true) ∧ (hasBody Try.prog 29 = true) ∧ (hasBody Try.prog 30 = true) ∧ (hasBody Try.prog 31 = true) ∧ (hasBody Try.prog 32 = true) ∧ (hasBody Try.prog 33 = true) ∧ (hasBody Try.prog 34 = true) ∧ (hasBody Try.prog 35 = true) ∧ (hasBody Try.prog 36 = true) ∧ (hasBody Try.prog 37 = true) ∧ (hasBody Try.prog 38 = true) ∧ (hasBody Try.prog 39 = true) ∧ (hasBody Try.prog 40 = true) ∧ (hasBody Try.prog 41 = true) ∧ (hasBody Try.prog 42 = true) ∧ (hasBody Try.prog 43 = true) ∧ (hasBody Try.prog 44 = true) ∧ (hasBody Try.prog 45 = true) ∧ (hasBody Try.prog 46 = true) := ⟨hb2, hb3, hb4, hb5, hb6, hb7, hb8, hb9, hb10, hb11, hb12, hb13, hb14, hb15, hb16, hb17, hb18, hb19, hb20, hb21, hb22, hb23, hb24, hb25, hb26, hb27, hb28, hb29, hb30, hb31, hb32, hb33, hb34, hb35, hb36, hb37, hb38, hb39, hb40, hb41, hb42, hb43, hb44, hb45, hb46⟩
theorem mixA : Try.prog.follows .mixedOrders = true := by kernel_rfl
end Go.Proofs.Ytabjbghmldiokaa
