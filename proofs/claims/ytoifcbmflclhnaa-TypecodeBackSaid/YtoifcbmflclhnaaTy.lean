/- Closed facts of this seat's types and functions, as the engine asks them (printed by wip/tyfacts.py). -/
import Derived.Test.YtoifcbmflclhnaaEng6
namespace Go.Proofs.Ytoifcbmflclhnaa
open Go.RowKit Go.Shelf
set_option maxRecDepth 100000

theorem ty0 : tfo Try.prog 24 1 = some 1 := by kernel_rfl
theorem ty1 : tsz Try.prog 22 = some (false, 1) := by kernel_rfl
theorem ty2 : tkind Try.prog 22 = 3 := by kernel_rfl
theorem ty3 : tzero Try.prog 24 = some [.int .i64 0, .slice none 0 0] := by kernel_rfl
theorem ty4 : tsz Try.prog 24 = some (true, 2) := by kernel_rfl
theorem ty5 : tbs Try.prog 30 9 = true := by kernel_rfl
theorem ty6 : tint Try.prog 9 = none := by kernel_rfl
theorem ty7 : (Program.underlying Try.prog 30).isSome = true := by kernel_rfl
theorem ty8 : tkind Try.prog 9 = 4 := by kernel_rfl
theorem ty9 : tkind Try.prog 30 = 3 := by kernel_rfl
theorem ty10 : tint Try.prog 3 = some .i64 := by kernel_rfl
theorem ty11 : (Program.underlying Try.prog 5).isSome = true := by kernel_rfl
theorem ty12 : tsl Try.prog 30 = some (5, 1) := by kernel_rfl
theorem ty13 : tarr Try.prog 30 = none := by kernel_rfl
theorem ty14 : tsz Try.prog 5 = some (false, 1) := by kernel_rfl
theorem ty15 : tzero Try.prog 5 = some [.int .u8 0] := by kernel_rfl
theorem tap30 : tap Try.prog 30 = some (5, 1, 1) := by kernel_rfl
theorem ty17 : tkind Try.prog 39 = 3 := by kernel_rfl
theorem ty18 : tsl Try.prog 39 = some (40, 1) := by kernel_rfl
theorem ty19 : tarr Try.prog 39 = none := by kernel_rfl
theorem ty20 : tsz Try.prog 40 = some (false, 1) := by kernel_rfl
theorem ty21 : tint Try.prog 40 = some .u64 := by kernel_rfl
theorem ty22 : tfo Try.prog 24 0 = some 0 := by kernel_rfl
theorem ty23 : tsz Try.prog 3 = some (false, 1) := by kernel_rfl
theorem ty24 : tst Try.prog 48 = some ([(0, 1), (1, 1)], [.int .i64 0, .int .i64 0]) := by kernel_rfl
theorem ty25 : tsl Try.prog 22 = some (48, 2) := by kernel_rfl
theorem ty26 : tzero Try.prog 48 = some [.int .i64 0, .int .i64 0] := by kernel_rfl
theorem ty27 : tst Try.prog 24 = some ([(0, 1), (1, 1)], [.int .i64 0, .slice none 0 0]) := by kernel_rfl
theorem tap22 : tap Try.prog 22 = some (48, 2, 16) := by kernel_rfl
theorem ty29 : tkind Try.prog 25 = 3 := by kernel_rfl
theorem ty30 : tsl Try.prog 25 = some (61, 1) := by kernel_rfl
theorem ty31 : tzero Try.prog 61 = some [.int .u16 0] := by kernel_rfl
theorem tap25 : tap Try.prog 25 = some (61, 1, 2) := by kernel_rfl
theorem ty33 : tst Try.prog 52 = some ([(0, 1), (1, 1)], [.slice none 0 0, .int .i64 0]) := by kernel_rfl
theorem ty34 : (Program.underlying Try.prog 3).isSome = true := by kernel_rfl
theorem ty35 : tarr Try.prog 22 = none := by kernel_rfl
theorem ty36 : tsz Try.prog 48 = some (true, 2) := by kernel_rfl
theorem ty37 : tfo Try.prog 48 0 = some 0 := by kernel_rfl
theorem ty38 : tfo Try.prog 48 1 = some 1 := by kernel_rfl
theorem ty39 : tint Try.prog 5 = some .u8 := by kernel_rfl
theorem ty40 : (Program.underlying Try.prog 40).isSome = true := by kernel_rfl
theorem ty41 : tst Try.prog 59 = some ([(0, 1), (1, 1), (2, 1)], [.slice none 0 0, .int .i64 0, .int .i64 0]) := by kernel_rfl
theorem ty42 : tfo Try.prog 59 2 = some 2 := by kernel_rfl
theorem ty43 : tsz Try.prog 31 = some (false, 1) := by kernel_rfl
theorem ty44 : tfo Try.prog 59 1 = some 1 := by kernel_rfl
theorem ty45 : tkind Try.prog 48 = 0 := by kernel_rfl
theorem ty46 : eqOk Try.prog 48 = some 2 := by kernel_rfl
theorem ty47 : tfo Try.prog 52 1 = some 1 := by kernel_rfl
theorem ty48 : tfo Try.prog 52 0 = some 0 := by kernel_rfl
theorem ty49 : tsz Try.prog 25 = some (false, 1) := by kernel_rfl
theorem ty50 : tarr Try.prog 25 = none := by kernel_rfl
theorem ty51 : tsz Try.prog 61 = some (false, 1) := by kernel_rfl
theorem ty52 : (Program.underlying Try.prog 61).isSome = true := by kernel_rfl
theorem ty53 : tfo Try.prog 59 0 = some 0 := by kernel_rfl
theorem ty54 : tsz Try.prog 30 = some (false, 1) := by kernel_rfl
theorem ty55 : tzero Try.prog 76 = some [.int .i64 0, .int .i64 0, .int .i64 0] := by kernel_rfl
theorem ty56 : tsz Try.prog 76 = some (true, 3) := by kernel_rfl
theorem ty57 : tst Try.prog 76 = some ([(0, 1), (1, 1), (2, 1)], [.int .i64 0, .int .i64 0, .int .i64 0]) := by kernel_rfl
theorem ty58 : tsl Try.prog 67 = some (76, 3) := by kernel_rfl
theorem tap67 : tap Try.prog 67 = some (76, 3, 24) := by kernel_rfl
theorem tyA : (tfo Try.prog 24 1 = some 1) ∧ (tsz Try.prog 22 = some (false, 1)) ∧ (tkind Try.prog 22 = 3) ∧ (tzero Try.prog 24 = some [.int .i64 0, .slice none 0 0]) ∧ (tsz Try.prog 24 = some (true, 2)) ∧ (tbs Try.prog 30 9 = true) ∧ (tint Try.prog 9 = none) ∧ ((Program.underlying Try.prog 30).isSome = true) ∧ (tkind Try.prog 9 = 4) ∧ (tkind Try.prog 30 = 3) ∧ (tint Try.prog 3 = some .i64) ∧ ((Program.underlying Try.prog 5).isSome = true) ∧ (tsl Try.prog 30 = some (5, 1)) ∧ (tarr Try.prog 30 = none) ∧ (tsz Try.prog 5 = some (false, 1)) ∧ (tzero Try.prog 5 = some [.int .u8 0]) ∧ (tap Try.prog 30 = some (5, 1, 1)) ∧ (tkind Try.prog 39 = 3) ∧ (tsl Try.prog 39 = some (40, 1)) ∧ (tarr Try.prog 39 = none) ∧ (tsz Try.prog 40 = some (false, 1)) ∧ (tint Try.prog 40 = some .u64) ∧ (tfo Try.prog 24 0 = some 0) ∧ (tsz Try.prog 3 = some (false, 1)) ∧ (tst Try.prog 48 = some ([(0, 1), (1, 1)], [.int .i64 0, .int .i64 0])) ∧ (tsl Try.prog 22 = some (48, 2)) ∧ (tzero Try.prog 48 = some [.int .i64 0, .int .i64 0]) ∧ (tst Try.prog 24 = some ([(0, 1), (1, 1)], [.int .i64 0, .slice none 0 0])) ∧ (tap Try.prog 22 = some (48, 2, 16)) ∧ (tkind Try.prog 25 = 3) ∧ (tsl Try.prog 25 = some (61, 1)) ∧ (tzero Try.prog 61 = some [.int .u16 0]) ∧ (tap Try.prog 25 = some (61, 1, 2)) ∧ (tst Try.prog 52 = some ([(0, 1), (1, 1)], [.slice none 0 0, .int .i64 0])) ∧ ((Program.underlying Try.prog 3).isSome = true) ∧ (tarr Try.prog 22 = none) ∧ (tsz Try.prog 48 = some (true, 2)) ∧ (tfo Try.prog 48 0 = some 0) ∧ (tfo Try.prog 48 1 = some 1) ∧ (tint Try.prog 5 = some .u8) ∧ ((Program.underlying Try.prog 40).isSome = true) ∧ (tst Try.prog 59 = some ([(0, 1), (1, 1), (2, 1)], [.slice none 0 0, .int .i64 0, .int .i64 0])) ∧ (tfo Try.prog 59 2 = some 2) ∧ (tsz Try.prog 31 = some (false, 1)) ∧ (tfo Try.prog 59 1 = some 1) ∧ (tkind Try.prog 48 = 0) ∧ (eqOk Try.prog 48 = some 2) ∧ (tfo Try.prog 52 1 = some 1) ∧ (tfo Try.prog 52 0 = some 0) ∧ (tsz Try.prog 25 = some (false, 1)) ∧ (tarr Try.prog 25 = none) ∧ (tsz Try.prog 61 = some (false, 1)) ∧ ((Program.underlying Try.prog 61).isSome = true) ∧ (tfo Try.prog 59 0 = some 0) ∧ (tsz Try.prog 30 = some (false, 1)) ∧ (tzero Try.prog 76 = some [.int .i64 0, .int .i64 0, .int .i64 0]) ∧ (tsz Try.prog 76 = some (true, 3)) ∧ (tst Try.prog 76 = some ([(0, 1), (1, 1), (2, 1)], [.int .i64 0, .int .i64 0, .int .i64 0])) ∧ (tsl Try.prog 67 = some (76, 3)) ∧ (tap Try.prog 67 = some (76, 3, 24)) := ⟨ty0, ty1, ty2, ty3, ty4, ty5, ty6, ty7, ty8, ty9, ty10, ty11, ty12, ty13, ty14, ty15, tap30, ty17, ty18, ty19, ty20, ty21, ty22, ty23, ty24, ty25, ty26, ty27, tap22, ty29, ty30, ty31, tap25, ty33, ty34, ty35, ty36, ty37, ty38, ty39, ty40, ty41, ty42, ty43, ty44, ty45, ty46, ty47, ty48, ty49, ty50, ty51, ty52, ty53, ty54, ty55, ty56, ty57, ty58, tap67⟩
theorem hb2 : hasBody Try.prog 2 = true := by kernel_rfl
theorem hb3 : hasBody Try.prog 3 = true := by kernel_rfl
theorem hb4 : hasBody Try.prog 4 = true := by kernel_rfl
theorem hb5 : hasBody Try.prog 5 = true := by kernel_rfl
theorem hb6 : hasBody Try.prog 6 = true := by kernel_rfl
theorem hb7 : hasBody Try.prog 7 = true := by kernel_rfl
theorem hb8 : hasBody Try.prog 8 = true := by kernel_rfl
theorem hb9 : hasBody Try.prog 9 = true := by kernel_rfl
theorem hb10 : hasBody Try.prog 10 = true := by kernel_rfl
theorem hb11 : hasBody Try.prog 11 = true := by kernel_rfl
theorem hb12 : hasBody Try.prog 12 = true := by kernel_rfl
theorem hb13 : hasBody Try.prog 13 = true := by kernel_rfl
theorem hb14 : hasBody Try.prog 14 = true := by kernel_rfl
theorem hb15 : hasBody Try.prog 15 = true := by kernel_rfl
theorem hb16 : hasBody Try.prog 16 = true := by kernel_rfl
theorem hb17 : hasBody Try.prog 17 = true := by kernel_rfl
theorem hb18 : hasBody Try.prog 18 = true := by kernel_rfl
theorem hb19 : hasBody Try.prog 19 = true := by kernel_rfl
theorem hb20 : hasBody Try.prog 20 = true := by kernel_rfl
theorem hb21 : hasBody Try.prog 21 = true := by kernel_rfl
theorem hb22 : hasBody Try.prog 22 = true := by kernel_rfl
theorem hb23 : hasBody Try.prog 23 = true := by kernel_rfl
theorem hb24 : hasBody Try.prog 24 = true := by kernel_rfl
theorem hb25 : hasBody Try.prog 25 = true := by kernel_rfl
theorem hb26 : hasBody Try.prog 26 = true := by kernel_rfl
theorem hb27 : hasBody Try.prog 27 = true := by kernel_rfl
theorem hb28 : hasBody Try.prog 28 = true := by kernel_rfl
theorem hb29 : hasBody Try.prog 29 = true := by kernel_rfl
theorem hb30 : hasBody Try.prog 30 = true := by kernel_rfl
theorem hb31 : hasBody Try.prog 31 = true := by kernel_rfl
theorem hb32 : hasBody Try.prog 32 = true := by kernel_rfl
theorem hb33 : hasBody Try.prog 33 = true := by kernel_rfl
theorem hb34 : hasBody Try.prog 34 = true := by kernel_rfl
theorem hb35 : hasBody Try.prog 35 = true := by kernel_rfl
theorem hb36 : hasBody Try.prog 36 = true := by kernel_rfl
theorem fnA : (hasBody Try.prog 2 = true) ∧ (hasBody Try.prog 3 = true) ∧ (hasBody Try.prog 4 = true) ∧ (hasBody Try.prog 5 = true) ∧ (hasBody Try.prog 6 = true) ∧ (hasBody Try.prog 7 = true) ∧ (hasBody Try.prog 8 = true) ∧ (hasBody Try.prog 9 = true) ∧ (hasBody Try.prog 10 = true) ∧ (hasBody Try.prog 11 = true) ∧ (hasBody Try.prog 12 = true) ∧ (hasBody Try.prog 13 = true) ∧ (hasBody Try.prog 14 = true) ∧ (hasBody Try.prog 15 = true) ∧ (hasBody Try.prog 16 = true) ∧ (hasBody Try.prog 17 = true) ∧ (hasBody Try.prog 18 = true) ∧ (hasBody Try.prog 19 = true) ∧ (hasBody Try.prog 20 = true) ∧ (hasBody Try.prog 21 = true) ∧ (hasBody Try.prog 22 = true) ∧ (hasBody Try.prog 23 = true) ∧ (hasBody Try.prog 24 = true) ∧ (hasBody Try.prog 25 = true) ∧ (hasBody Try.prog 26 = true) ∧ (hasBody Try.prog 27 = true) ∧ (hasBody Try.prog 28 = true) ∧ (hasBody Try.prog 29 = true) ∧ (hasBody Try.prog 30 = true) ∧ (hasBody Try.prog 31 = true) ∧ (hasBody Try.prog 32 = true) ∧ (hasBody Try.prog 33 = true) ∧ (hasBody Try.prog 34 = true) ∧ (hasBody Try.prog 35 = true) ∧ (hasBody Try.prog 36 = true) := ⟨hb2, hb3, hb4, hb5, hb6, hb7, hb8, hb9, hb10, hb11, hb12, hb13, hb14, hb15, hb16, hb17, hb18, hb19, hb20, hb21, hb22, hb23, hb24, hb25, hb26, hb27, hb28, hb29, hb30, hb31, hb32, hb33, hb34, hb35, hb36⟩
theorem mixA : Try.prog.follows .mixedOrders = true := by kernel_rfl
end Go.Proofs.Ytoifcbmflclhnaa
