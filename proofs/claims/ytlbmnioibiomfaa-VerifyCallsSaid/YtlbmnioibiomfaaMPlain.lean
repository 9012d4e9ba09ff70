/- Encodings of modules: plain. -/
import Derived.Test.YtlbmnioibiomfaaMChk
import Derived.Test.YtlbmnioibiomfaaTPlain
import Derived.Test.YtlbmnioibiomfaaEng10
namespace Go.Proofs.Ytlbmnioibiomfaa
open Go.RowKit Go.Shelf
set_option linter.unusedVariables false
set_option linter.unusedSimpArgs false
set_option maxRecDepth 100000
def encTy (t : TyR) : List Nat := encB t.len t.fs
def encFn (f : FnR) : List Nat := [f.p.toNat, f.r.toNat, f.l.toNat, f.code.length].flatMap putU ++ f.code.flatMap encI
def magicB : List Nat := [80, 72, 77, 49]
def encM (m : ModR) : List Nat := magicB ++ putU m.ts.length ++ m.ts.flatMap encTy ++ putU m.gs.length ++ m.gs.flatMap encFn
def errM (m : ModR) : Int := if (chkM m).1 = 0 then (if 65536 < (encM m).length then 4 else 0) else (chkM m).1
def encMod (m : ModR) : List Nat := if errM m = 0 then encM m else []
theorem flat_snoc {α β : Type} {l : List α} {k : Nat} {x : α} (f : α → List β) (h : l[k]? = some x) : (l.take (k + 1)).flatMap f = (l.take k).flatMap f ++ f x := by
  obtain ⟨hk, hf⟩ := List.getElem?_eq_some_iff.1 h
  rw [List.take_succ_eq_append_getElem hk, hf, List.flatMap_append]
  simp
theorem byt_append (l m : List Nat) : byt (l ++ m) = byt l ++ byt m := by simp [byt]
theorem encI_len {i : Ins} (h : i.arg < 18446744073709551616) : (encI i).length ≤ 11 := by
  have := putU_len10 h
  unfold encI
  split <;> simp <;> omega
theorem errM_no {m : ModR} (h : ¬ (chkM m).1 = 0) : errM m = (chkM m).1 ∧ encMod m = [] := by
  have h1 : errM m = (chkM m).1 := by unfold errM; rw [if_neg h]
  exact ⟨h1, by unfold encMod; rw [h1, if_neg h]⟩
theorem errM_big {m : ModR} (h : (chkM m).1 = 0) (h2 : 65536 < (encM m).length) : errM m = 4 ∧ encMod m = [] := by
  have h1 : errM m = 4 := by unfold errM; rw [if_pos h, if_pos h2]
  exact ⟨h1, by unfold encMod; rw [h1, if_neg (by decide)]⟩
theorem errM_ok {m : ModR} (h : (chkM m).1 = 0) (h2 : ¬ 65536 < (encM m).length) : errM m = 0 ∧ encMod m = encM m := by
  have h1 : errM m = 0 := by unfold errM; rw [if_pos h, if_neg h2]
  exact ⟨h1, by unfold encMod; rw [h1, if_pos rfl]⟩
theorem encT_eq {t : TyR} (h : chk t.len t.fs = 0) : encT t.len t.fs = encTy t := by unfold encT encTy; rw [if_pos h]
theorem encIE_eq {i : Ins} (h : i.err = 0) : encIE i = encI i := by unfold encIE; rw [if_pos h]
theorem i64v (n : Nat) (h : n ≤ 9223372036854775807) : IntKind.u64.wrap (n : Int) = (n : Int) := u64_in (by omega)
end Go.Proofs.Ytlbmnioibiomfaa
