/- HandleFormat: for every input the law returns true, and each argument reads afterwards as it did. No condition. -/
import Derived.Test.YtddofamkmcgfmaaDoorRows
import Derived.Test.YtddofamkmcgfmaaDoorHOpen
import Derived.Test.YtddofamkmcgfmaaDoorHVar
import Derived.Test.YtddofamkmcgfmaaDoorHLTx
import Derived.Test.YtddofamkmcgfmaaDoorFacts
import Derived.Test.YtddofamkmcgfmaaDoorTie
import Derived.Test.YtddofamkmcgfmaaDoorCards
import Derived.LaidMore
import Derived.Lay
import Derived.MakeChecks
import Derived.ChangeMaps5
import Derived.Stop.Joined
import Derived.SevenTiedAt
import Derived.WalkKit
import Derived.ProofKit
import Derived.OpenShut
namespace Go.Proofs.YtddofamkmcgfmaaDoor.handleFormat
open Go.ChangeShapes Go.WideShapes Go.ChangeAt Go.RowKit Go.ChangeMaps
set_option linter.unusedVariables false

theorem own : ownKnob Tryd.prog.godebug = none := fact_knob

set_option maxRecDepth 100000 in
theorem lifted (os : Os) (started : os.Started) (H : Type) (enc : TypeId × Value → H) :
    ReturnsInHanded {} Tryd.checked os 7 .any (fun w args => (Rows.handleFormatSpec.pre enc Tryd.prog Tryd.f7 [] false w args ∧ laidMetH Tryd.prog Rows.handleFormatRow.laid w) ∧ sizedMet enc Tryd.prog Tryd.f7 (OpenSpec.ofChange Rows.handleFormatSpec) false w args) (Rows.handleFormatSpec.post enc Tryd.prog Tryd.f7 false true false false) := by
  refine handed_and_shaped (C := Tryd.checked) (X := fun w _ => laidMetH Tryd.prog Rows.handleFormatRow.laid w) (fun _ _ _ hh h => h.of_heap hh) own started (by kernel_rfl) Tryd.func7
    (ChangeSpec.witness_shaped (enc := enc) (C := Tryd.checked) (os := os) (X := fun w _ => laidMetH Tryd.prog Rows.handleFormatRow.laid w) false (World.laidAll Tryd.prog os Rows.handleFormatRow.laid) #[.int .u64 0] 8 (World.laidAll_os _ _ _) (World.shaped_of_ZipB (by kernel_rfl) (by kernel_rfl)) (by kernel_rfl) (by kernel_rfl) (by kernel_rfl)
      (by rw [Go.MakeChecks.laidMetH_plain _ _ _ (by kernel_rfl)]; exact laidMet_laidAll _ (by kernel_rfl) (by kernel_rfl))) ?_
  intro W base args ds gs before hval0 hW _ hS hL _
  have hval : ∀ (j : Nat) t v, Tryd.f7.params[j]? = some t → args[j]? = some v → Value.okWide Tryd.prog W .any base t v := hval0
  have hW1 := hW
  obtain ⟨p, q, hA0, hV, rfl, hfz, hnd⟩ := hW
  obtain ⟨rfl, rfl⟩ := trodVars_none hV
  have hA1 : DataW.TrodAll enc Tryd.prog W 0 (fun _ => true) true Tryd.f7.params.toList args.toList ds p := hA0
  have hA := hA1
  rw [Tryd.params7] at hA hval
  obtain ⟨v0, vs0, d0, ds0, p0, q0, hargs, hds0, hp0, h0, r0⟩ := trodAll_cons hA
  obtain ⟨rfl, hdn, _⟩ := trodAll_nil r0
  have hdd : ds = [d0] := by rw [hds0, hdn]
  obtain rfl : args = #[v0] := by cases args; simp_all
  obtain ⟨a0, rfl, _, _, g0⟩ := open_int Tryd.underlying25 (hval 0 25 v0 rfl rfl) h0
  clear hA0 hval0 hA
  simp only [List.append_nil] at hW1
  refine (hFormat_walk W (hv_format hS hL) a0 (wf_u64 g0)).mono fun e W' ⟨he, hg⟩ => ?_
  subst he
  exact ⟨_, rfl, post_of_reads fact_laid (by kernel_rfl) rfl hW1 hA1 (fun _ _ _ => by rw [hdd]; exact trodAll_cons_mk (shut_bool Tryd.underlying4 _) trodAll_mk0) (by rw [hdd]; rfl) (by rw [hdd]; rfl)
    hg (ok_one (by kernel_rfl) rfl (okWide_bool_mk Tryd.underlying4 _))⟩

theorem joined : joinedFacts Tryd.prog 7 Tryd.f7 Rows.handleFormatSpec Rows.handleFormatRow = true :=
  joined_mk fact_laid fact_rowed fact_stops fact_knobs fact_plain fact_heard fact_enter fact_lifts fact_make (by kernel_rfl) (by kernel_rfl) (by kernel_rfl)
    (by kernel_rfl) (by kernel_rfl) (by kernel_rfl) (by kernel_rfl) (by kernel_rfl) (by kernel_rfl) (by kernel_rfl) (by kernel_rfl) (by kernel_rfl)
    (by kernel_rfl) (by kernel_rfl) (by kernel_rfl) (by kernel_rfl) (by kernel_rfl) (by kernel_rfl) (by kernel_rfl) (by kernel_rfl) (by kernel_rfl)
    (by kernel_rfl) (by kernel_rfl) (by kernel_rfl) (by kernel_rfl) (by kernel_rfl)

theorem over : Rows.handleFormatRow.holds Tryd.pinned (OpenSpec.ofChange Rows.handleFormatSpec) :=
  OpenClaim.holds_of_wide 7 Tryd.f7 rfl rfl rfl rfl rfl rfl rfl ⟨rfl, rfl, rfl, rfl, rfl⟩ rfl rfl rfl rfl rfl (by kernel_rfl) Tryd.func7 joined
    (of_decide_eq_true (by kernel_rfl)) (by unfold Func.isWrapper; first | (rw [if_pos (by decide +kernel)]; kernel_rfl) | (rw [if_neg (by decide +kernel)]; exact ⟨rfl, rfl⟩))
    (fun os started H enc _ => lifted os started H enc)

theorem proved : Rows.HandleFormatCardSaid :=
  Claim7.holds_tied_plain_at .later [] [.data, .data, .data, .data, .sentinel, .sentinel, .pinned] true (true, "43e0c4570bae6b14a56ed13291d4930c535faf6f851a62daf974974e96d08083") true
    over (fun _ h => by cases h) (by kernel_rfl) (fun _ h => by cases h) handleFormat_row_tie rfl ⟨rfl, rfl⟩ (by kernel_rfl) rfl
    (fun f fn hf hfn => by
      obtain rfl : f = 7 := Option.some.inj ((show Tryd.prog.funcNamed "pluginhost/pluginhostlaw1.HandleFormat" = some 7 by kernel_rfl).symm.trans hf) |>.symm
      obtain rfl : fn = Tryd.f7 := (Option.some.inj (Tryd.func7.symm.trans hfn)).symm
      exact ⟨by kernel_rfl, fun j t ht => by
        rw [Tryd.params7] at ht
        have hm : t ∈ [25] := by simpa using Array.mem_of_getElem? ht
        have hall : ([25].all fun u => !Tryd.prog.wantsStandIn u) = true := by kernel_rfl
        exact (show Tryd.prog.wantsStandIn t = false by simpa using List.all_eq_true.1 hall t hm)⟩)
    (by kernel_rfl)
#print axioms proved
end Go.Proofs.YtddofamkmcgfmaaDoor.handleFormat


