/- ArenaRaw: for every input the law returns true, and each argument reads afterwards as it did. No condition. -/
import Derived.Test.YtfaanphjaghbpaaRows
import Derived.Test.YtfaanphjaghbpaaZ6
import Derived.Test.YtfaanphjaghbpaaZLArenaRaw
import Derived.Test.YtfaanphjaghbpaaFacts
import Derived.WalkKit
import Derived.ProofKit
import Derived.OpenShut
namespace Go.Proofs.Ytfaanphjaghbpaa.arenaRaw
open Go.ChangeShapes Go.WideShapes Go.ChangeAt Go.RowKit
set_option linter.unusedVariables false

theorem own : ownKnob Try.prog.godebug = none := fact_knob

set_option maxRecDepth 100000 in
theorem lifted (os : Os) (started : os.Started) (H : Type) (enc : TypeId × Value → H) :
    ReturnsInHanded {} Try.checked os 7 .any (Rows.arenaRawSpec.pre6 enc Try.prog Try.f7 Rows.arenaRawRow.domain false) (Rows.arenaRawSpec.post enc Try.prog Try.f7 false true false false) := by
  refine returnsInHanded_of_change (C := Try.checked) own started (by kernel_rfl) Try.func7
    (ChangeSpec.witness6 (enc := enc) (C := Try.checked) false ⟨#[], #[.int .u8 0, .slice none 0 0, .agg #[.int .i64 0, .int .i64 0], .agg #[.int .i64 0, .int .i64 0], .int .i64 0, .int .i64 0, .int .i64 0, .int .u64 0, .int .u8 0], []⟩ 8 (by kernel_rfl) (by kernel_rfl) (by kernel_rfl) (by kernel_rfl)) ?_
  intro W base args ds gs before hval0 hW hcnd _
  have hval : ∀ (j : Nat) t v, Try.f7.params[j]? = some t → args[j]? = some v → Value.okWide Try.prog W .any base t v := hval0
  have hW1 := hW
  obtain ⟨p, q, hA0, hV, rfl, hfz, hnd⟩ := hW
  obtain ⟨rfl, rfl⟩ := trodVars_none hV
  have hA1 : DataW.TrodAll enc Try.prog W 0 (fun _ => true) true Try.f7.params.toList args.toList ds p := hA0
  have hA := hA1
  rw [Try.params7] at hA hval
  obtain ⟨v0, vs0, d0, ds0, p0, q0, hargs, hds0, hp0, h0, r0⟩ := trodAll_cons hA
  obtain ⟨v1, vs1, d1, ds1, p1, q1, rfl, hds1, hp1, h1, r1⟩ := trodAll_cons r0
  obtain ⟨v2, vs2, d2, ds2, p2, q2, rfl, hds2, hp2, h2, r2⟩ := trodAll_cons r1
  obtain ⟨v3, vs3, d3, ds3, p3, q3, rfl, hds3, hp3, h3, r3⟩ := trodAll_cons r2
  obtain ⟨v4, vs4, d4, ds4, p4, q4, rfl, hds4, hp4, h4, r4⟩ := trodAll_cons r3
  obtain ⟨v5, vs5, d5, ds5, p5, q5, rfl, hds5, hp5, h5, r5⟩ := trodAll_cons r4
  obtain ⟨v6, vs6, d6, ds6, p6, q6, rfl, hds6, hp6, h6, r6⟩ := trodAll_cons r5
  obtain ⟨v7, vs7, d7, ds7, p7, q7, rfl, hds7, hp7, h7, r7⟩ := trodAll_cons r6
  obtain ⟨v8, vs8, d8, ds8, p8, q8, rfl, hds8, hp8, h8, r8⟩ := trodAll_cons r7
  obtain ⟨rfl, hdn, _⟩ := trodAll_nil r8
  have hdd : ds = [d0, d1, d2, d3, d4, d5, d6, d7, d8] := by rw [hds0, hds1, hds2, hds3, hds4, hds5, hds6, hds7, hds8, hdn]
  obtain rfl : args = #[v0, v1, v2, v3, v4, v5, v6, v7, v8] := by cases args; simp_all
  obtain ⟨a0, rfl, _, _, g0⟩ := open_int Try.underlying5 (hval 0 5 v0 rfl rfl) h0
  obtain ⟨A1, n1, c1, x1, rfl, e1, g1⟩ := open_steps6 (hval 1 42 v1 rfl rfl) h1
  obtain ⟨x2, rfl, e2, g2⟩ := open_ext (hval 2 28 v2 rfl rfl) h2
  obtain ⟨x3, rfl, e3, g3⟩ := open_ext (hval 3 28 v3 rfl rfl) h3
  obtain ⟨a4, rfl, _, _, g4⟩ := open_int Try.underlying3 (hval 4 3 v4 rfl rfl) h4
  obtain ⟨a5, rfl, _, _, g5⟩ := open_int Try.underlying3 (hval 5 3 v5 rfl rfl) h5
  obtain ⟨a6, rfl, _, _, g6⟩ := open_int Try.underlying3 (hval 6 3 v6 rfl rfl) h6
  obtain ⟨a7, rfl, _, _, g7⟩ := open_int Try.underlying22 (hval 7 22 v7 rfl rfl) h7
  obtain ⟨a8, rfl, _, _, g8⟩ := open_int Try.underlying5 (hval 8 5 v8 rfl rfl) h8
  clear hA0 hval0 hA
  simp only [List.append_nil] at hW1
  refine (arRaw_walk W a0 (wf_u8 g0) A1 n1 c1 x1 e1 g1 x2 e2 g2 x3 e3 g3 a4 (wf_i64 g4) a5 (wf_i64 g5) a6 (wf_i64 g6) a7 (wf_u64 g7) a8 (wf_u8 g8)).mono fun e W' ⟨he, hg⟩ => ?_
  subst he
  exact ⟨_, rfl, post_of_reads fact_laid (by kernel_rfl) rfl hW1 hA1 (fun _ _ _ => by rw [hdd]; exact trodAll_cons_mk (shut_bool Try.underlying4 _) trodAll_mk0) (by rw [hdd]; rfl) (by rw [hdd]; rfl)
    hg (ok_one (by kernel_rfl) rfl (okWide_bool_mk Try.underlying4 _))⟩

theorem joined : joinedFacts Try.prog 7 Try.f7 Rows.arenaRawSpec Rows.arenaRawRow = true :=
  joined_mk fact_laid fact_rowed fact_stops fact_knobs fact_plain fact_heard fact_enter fact_lifts fact_make (by kernel_rfl) (by kernel_rfl) (by kernel_rfl)
    (by kernel_rfl) (by kernel_rfl) (by kernel_rfl) (by kernel_rfl) (by kernel_rfl) (by kernel_rfl) (by kernel_rfl) (by kernel_rfl) (by kernel_rfl)
    (by kernel_rfl) (by kernel_rfl) (by kernel_rfl) (by kernel_rfl) (by kernel_rfl) (by kernel_rfl) (by kernel_rfl) (by kernel_rfl) (by kernel_rfl)
    (by kernel_rfl) (by kernel_rfl) (by kernel_rfl) (by kernel_rfl) (by kernel_rfl)

theorem over : Rows.arenaRawRow.holds Try.pinned (OpenSpec.ofChange Rows.arenaRawSpec) :=
  OpenClaim.holds_of_wide 7 Try.f7 rfl rfl rfl rfl rfl rfl rfl ⟨rfl, rfl, rfl, rfl, rfl⟩ rfl rfl rfl rfl rfl (by kernel_rfl) Try.func7 joined
    (of_decide_eq_true (by kernel_rfl)) (by unfold Func.isWrapper; first | (rw [if_pos (by decide +kernel)]; kernel_rfl) | (rw [if_neg (by decide +kernel)]; exact ⟨rfl, rfl⟩))
    (fun os started H enc _ => lifted os started H enc)

theorem proved : Rows.ArenaRawSaid :=
  over
#print axioms proved
end Go.Proofs.Ytfaanphjaghbpaa.arenaRaw
