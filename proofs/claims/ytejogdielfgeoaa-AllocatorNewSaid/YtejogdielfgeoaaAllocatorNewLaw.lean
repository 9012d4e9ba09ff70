/- AllocatorNew: for every input the law returns true, and each argument reads afterwards as it did. No condition. -/
import Derived.Test.YtejogdielfgeoaaRows
import Derived.Test.YtejogdielfgeoaaZ6
import Derived.Test.YtejogdielfgeoaaZLAllocatorNew
import Derived.Test.YtejogdielfgeoaaFacts
import Derived.WalkKit
import Derived.ProofKit
import Derived.OpenShut
namespace Go.Proofs.Ytejogdielfgeoaa.allocatorNew
open Go.ChangeShapes Go.WideShapes Go.ChangeAt Go.RowKit
set_option linter.unusedVariables false

theorem own : ownKnob Try.prog.godebug = none := fact_knob

set_option maxRecDepth 100000 in
theorem lifted (os : Os) (started : os.Started) (H : Type) (enc : TypeId × Value → H) :
    ReturnsInHanded {} Try.checked os 4 .any (Rows.allocatorNewSpec.pre6 enc Try.prog Try.f4 Rows.allocatorNewRow.domain false) (Rows.allocatorNewSpec.post enc Try.prog Try.f4 false true false false) := by
  refine returnsInHanded_of_change (C := Try.checked) own started (by kernel_rfl) Try.func4
    (ChangeSpec.witness6 (enc := enc) (C := Try.checked) false ⟨#[], #[.int .i64 0, .int .u8 0, .int .i64 0, .agg #[.int .i64 0, .int .i64 0]], []⟩ 8 (by kernel_rfl) (by kernel_rfl) (by kernel_rfl) (by kernel_rfl)) ?_
  intro W base args ds gs before hval0 hW hcnd _
  have hval : ∀ (j : Nat) t v, Try.f4.params[j]? = some t → args[j]? = some v → Value.okWide Try.prog W .any base t v := hval0
  have hW1 := hW
  obtain ⟨p, q, hA0, hV, rfl, hfz, hnd⟩ := hW
  obtain ⟨rfl, rfl⟩ := trodVars_none hV
  have hA1 : DataW.TrodAll enc Try.prog W 0 (fun _ => true) true Try.f4.params.toList args.toList ds p := hA0
  have hA := hA1
  rw [Try.params4] at hA hval
  obtain ⟨v0, vs0, d0, ds0, p0, q0, hargs, hds0, hp0, h0, r0⟩ := trodAll_cons hA
  obtain ⟨v1, vs1, d1, ds1, p1, q1, rfl, hds1, hp1, h1, r1⟩ := trodAll_cons r0
  obtain ⟨v2, vs2, d2, ds2, p2, q2, rfl, hds2, hp2, h2, r2⟩ := trodAll_cons r1
  obtain ⟨v3, vs3, d3, ds3, p3, q3, rfl, hds3, hp3, h3, r3⟩ := trodAll_cons r2
  obtain ⟨rfl, hdn, _⟩ := trodAll_nil r3
  have hdd : ds = [d0, d1, d2, d3] := by rw [hds0, hds1, hds2, hds3, hdn]
  obtain rfl : args = #[v0, v1, v2, v3] := by cases args; simp_all
  obtain ⟨a0, rfl, _, _, g0⟩ := open_int Try.underlying3 (hval 0 3 v0 rfl rfl) h0
  obtain ⟨a1, rfl, _, _, g1⟩ := open_int Try.underlying5 (hval 1 5 v1 rfl rfl) h1
  obtain ⟨a2, rfl, _, _, g2⟩ := open_int Try.underlying3 (hval 2 3 v2 rfl rfl) h2
  obtain ⟨x3, rfl, e3, g3⟩ := open_ext (hval 3 39 v3 rfl rfl) h3
  clear hA0 hval0 hA
  simp only [List.append_nil] at hW1
  refine (alNew_walk W a0 (wf_i64 g0) a1 (wf_u8 g1) a2 (wf_i64 g2) x3 e3 g3).mono fun e W' ⟨he, hg⟩ => ?_
  subst he
  exact ⟨_, rfl, post_of_reads fact_laid (by kernel_rfl) rfl hW1 hA1 (fun _ _ _ => by rw [hdd]; exact trodAll_cons_mk (shut_bool Try.underlying4 _) trodAll_mk0) (by rw [hdd]; rfl) (by rw [hdd]; rfl)
    hg (ok_one (by kernel_rfl) rfl (okWide_bool_mk Try.underlying4 _))⟩

theorem joined : joinedFacts Try.prog 4 Try.f4 Rows.allocatorNewSpec Rows.allocatorNewRow = true :=
  joined_mk fact_laid fact_rowed fact_stops fact_knobs fact_plain fact_heard fact_enter fact_lifts fact_make (by kernel_rfl) (by kernel_rfl) (by kernel_rfl)
    (by kernel_rfl) (by kernel_rfl) (by kernel_rfl) (by kernel_rfl) (by kernel_rfl) (by kernel_rfl) (by kernel_rfl) (by kernel_rfl) (by kernel_rfl)
    (by kernel_rfl) (by kernel_rfl) (by kernel_rfl) (by kernel_rfl) (by kernel_rfl) (by kernel_rfl) (by kernel_rfl) (by kernel_rfl) (by kernel_rfl)
    (by kernel_rfl) (by kernel_rfl) (by kernel_rfl) (by kernel_rfl) (by kernel_rfl)

theorem over : Rows.allocatorNewRow.holds Try.pinned (OpenSpec.ofChange Rows.allocatorNewSpec) :=
  OpenClaim.holds_of_wide 4 Try.f4 rfl rfl rfl rfl rfl rfl rfl ⟨rfl, rfl, rfl, rfl, rfl⟩ rfl rfl rfl rfl rfl (by kernel_rfl) Try.func4 joined
    (of_decide_eq_true (by kernel_rfl)) (by unfold Func.isWrapper; first | (rw [if_pos (by decide +kernel)]; kernel_rfl) | (rw [if_neg (by decide +kernel)]; exact ⟨rfl, rfl⟩))
    (fun os started H enc _ => lifted os started H enc)

theorem proved : Rows.AllocatorNewSaid :=
  over
#print axioms proved
end Go.Proofs.Ytejogdielfgeoaa.allocatorNew
