/- append onto a slice that is not the call's own and has no room. -/
import Derived.Test.YtddofamkmcgfmaaDoorEng10
import Derived.ArgAppend
namespace Go.Proofs.YtddofamkmcgfmaaDoor
open Go.RowKit Go.Shelf
set_option linter.unusedVariables false
set_option linter.unusedSimpArgs false
section
variable {P : Program} {M : List Nat} {W : World} {L : List Res} {K : Bool → Value → List Res → Prop}
/-- Something is appended: a new row. -/
theorem appV_full {ty t e : TypeId} {size bytes n m c : Nat} {B A : Option Addr} {olds news : List Value} (ht : tap P t = some (e, size, bytes)) (h0 : 0 < n) (hm : 0 < m)
    (hdst : ∀ w, St M W L w → Sl w w.heap.size size B n n olds) (hsrc : ∀ w, St M W L w → Reads w w.heap.size size A m news)
    (h63 : n + m ≤ 9223372036854775807) (hbytes : (n + m) * bytes ≤ 140737488355328)
    (hk : ∀ A' c', (olds ++ news).length = (n + m) * size → rowAt A' (n + m) W M L → K true (.slice A' (n + m) c') (.row (.slice A' (n + m) c') e size (n + m) (olds ++ news) :: L)) : appV P M W ty t L (.slice B n n) (.slice A m c) K := by
  intro w hw
  obtain ⟨hu, i, z, hi, hz, hs, hby, hzs, hsz⟩ := tap_run ht
  have hd := hdst w hw
  have hr := hsrc w hw
  obtain ⟨b, off, rfl, hb, hc⟩ := hd.cells h0
  obtain ⟨ad, rfl, hB, hcr⟩ := hr.2 hm
  obtain ⟨v', w', hrun, hown, hg⟩ := run_append_arg_grows (P := P) w t ty e i z size bytes hu hi hz hs hby hzs hsz ⟨b, off, none⟩ n n olds hd.len (fun j u hj => by rw [Addr.add_lit]; exact hc j u hj) ad m c news hr.1 hcr (by omega) (by unfold maxLen; omega) hbytes
  obtain ⟨A', c', rfl⟩ := slice_of_row hown
  have hB : Below w.heap.size w w' := ⟨hg.os, hg.tape, hg.output, hg.size, fun k hk => hg.block k hk (by simp)⟩
  have hfin := hw.addRow hB hown
  exact ⟨_, _, w', hrun, hfin, hk A' c' hown.1 hfin.row_at⟩
/-- Nothing is appended: the same slice. -/
theorem appV_none {ty t e : TypeId} {size bytes n c d : Nat} {b : Addr} {A : Option Addr} (ht : tap P t = some (e, size, bytes)) (hc : n ≤ d)
    (hk : K true (.slice (some b) n d) L) : appV P M W ty t L (.slice (some b) n d) (.slice A 0 c) K := by
  intro w hw
  obtain ⟨hu, i, z, hi, hz, hs, hby, hzs, hsz⟩ := tap_run ht
  refine ⟨_, _, w, ?_, hw, hk⟩
  cases A with
  | none => simp [Builtin.append_, run_underlying hu, sizeOf, typeInfo, hi, Builtin.lenOf, Builtin.firstCells, hc, storeCells]
  | some a =>
    have := run_firstCells_some (P := P) w i.size 0 a 0 c [] (by simp) (by simp)
    simp [Builtin.append_, run_underlying hu, sizeOf, typeInfo, hi, Builtin.lenOf, hc, this, storeCells]
end
end Go.Proofs.YtddofamkmcgfmaaDoor
