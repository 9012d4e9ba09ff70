/- HistoryTells: for every input the law returns true, and each argument reads afterwards as it did. No condition. -/
import Derived.Test.YtnkgiaimcpbhkaaGreatRows
import Derived.Test.YtnkgiaimcpbhkaaGreatDells1
import Derived.Test.YtnkgiaimcpbhkaaGreatDells16
import Derived.Test.YtnkgiaimcpbhkaaGreatFacts
import Derived.WalkKit
import Derived.ProofKit
import Derived.OpenShut
namespace Go.Proofs.YtnkgiaimcpbhkaaGreat.historyTells
open Go.ChangeShapes Go.WideShapes Go.ChangeAt Go.RowKit
set_option linter.unusedVariables false

theorem own : ownKnob Tryz.prog.godebug = none := fact_knob

set_option maxRecDepth 100000 in
theorem lifted (os : Os) (started : os.Started) (H : Type) (enc : TypeId × Value → H) :
    ReturnsInHanded {} Tryz.checked os 5 .any (Rows.historyTellsSpec.pre6 enc Tryz.prog Tryz.f5 Rows.historyTellsRow.domain false) (Rows.historyTellsSpec.post enc Tryz.prog Tryz.f5 false true false false) := by
  refine returnsInHanded_of_change (C := Tryz.checked) own started (by kernel_rfl) Tryz.func5
    (ChangeSpec.witness6 (enc := enc) (C := Tryz.checked) false ⟨#[], #[.slice none 0 0, .slice none 0 0], []⟩ 8 (by kernel_rfl) (by kernel_rfl) (by kernel_rfl) (by kernel_rfl)) ?_
  intro W base args ds gs before hval0 hW hcnd _
  have hval : ∀ (j : Nat) t v, Tryz.f5.params[j]? = some t → args[j]? = some v → Value.okWide Tryz.prog W .any base t v := hval0
  have hW1 := hW
  obtain ⟨p, q, hA0, hV, rfl, hfz, hnd⟩ := hW
  obtain ⟨rfl, rfl⟩ := trodVars_none hV
  have hA1 : DataW.TrodAll enc Tryz.prog W 0 (fun _ => true) true Tryz.f5.params.toList args.toList ds p := hA0
  have hA := hA1
  rw [Tryz.params5] at hA hval
  obtain ⟨v0, vs0, d0, ds0, p0, q0, hargs, hds0, hp0, h0, r0⟩ := trodAll_cons hA
  obtain ⟨v1, vs1, d1, ds1, p1, q1, rfl, hds1, hp1, h1, r1⟩ := trodAll_cons r0
  obtain ⟨rfl, hdn, _⟩ := trodAll_nil r1
  have hdd : ds = [d0, d1] := by rw [hds0, hds1, hdn]
  obtain rfl : args = #[v0, v1] := by cases args; simp_all
  obtain ⟨A0, n0, c0, x0, rfl, e0, g0⟩ := AGO (hval 0 22 v0 rfl rfl) h0
  obtain ⟨A1, n1, c1, x1, rfl, e1, g1⟩ := AGO (hval 1 22 v1 rfl rfl) h1
  clear hA0 hval0 hA
  simp only [List.append_nil] at hW1
  refine (AGB W A0 n0 c0 x0 e0 g0 A1 n1 c1 x1 e1 g1).mono fun e W' ⟨he, hg⟩ => ?_
  subst he
  exact ⟨_, rfl, AAy fact_laid (by kernel_rfl) rfl hW1 hA1 (fun _ _ _ => by rw [hdd]; exact trodAll_cons_mk (shut_bool Tryz.underlying4 _) trodAll_mk0) (by rw [hdd]; rfl) (by rw [hdd]; rfl)
    hg (ok_one (by kernel_rfl) rfl (okWide_bool_mk Tryz.underlying4 _))⟩

theorem joined : joinedFacts Tryz.prog 5 Tryz.f5 Rows.historyTellsSpec Rows.historyTellsRow = true :=
  joined_mk fact_laid fact_rowed fact_stops fact_knobs fact_plain fact_heard fact_enter fact_lifts fact_make (by kernel_rfl) (by kernel_rfl) (by kernel_rfl)
    (by kernel_rfl) (by kernel_rfl) (by kernel_rfl) (by kernel_rfl) (by kernel_rfl) (by kernel_rfl) (by kernel_rfl) (by kernel_rfl) (by kernel_rfl)
    (by kernel_rfl) (by kernel_rfl) (by kernel_rfl) (by kernel_rfl) (by kernel_rfl) (by kernel_rfl) (by kernel_rfl) (by kernel_rfl) (by kernel_rfl)
    (by kernel_rfl) (by kernel_rfl) (by kernel_rfl) (by kernel_rfl) (by kernel_rfl)

theorem over : Rows.historyTellsRow.holds Tryz.pinned (OpenSpec.ofChange Rows.historyTellsSpec) :=
  OpenClaim.holds_of_wide 5 Tryz.f5 rfl rfl rfl rfl rfl rfl rfl ⟨rfl, rfl, rfl, rfl, rfl⟩ rfl rfl rfl rfl rfl (by kernel_rfl) Tryz.func5 joined
    (of_decide_eq_true (by kernel_rfl)) (by unfold Func.isWrapper; first | (rw [if_pos (by decide +kernel)]; kernel_rfl) | (rw [if_neg (by decide +kernel)]; exact ⟨rfl, rfl⟩))
    (fun os started H enc _ => lifted os started H enc)

theorem proved : Rows.HistoryTellsSaid :=
  over
#print axioms proved
end Go.Proofs.YtnkgiaimcpbhkaaGreat.historyTells
