/- What the library's variables hold, by the row's list and the world's shape; the wrap that hands both on. -/
import Derived.Test.YtddofamkmcgfmaaDoorHTxt
import Derived.Test.YtddofamkmcgfmaaDoorRows
import Derived.Stop.LaidErr
import Derived.Lib.LaidTab
import Derived.Shelf.Vars
import Derived.MakeChecks
import Derived.Handed
namespace Go.Proofs.YtddofamkmcgfmaaDoor
open Go.RowKit Go.Shelf
set_option linter.unusedVariables false
set_option linter.unusedSimpArgs false
section
variable {H : Type} {enc : TypeId × Value → H}
theorem handed_and_shaped {a : Assume} {C : Checked} {os : Os} {f : FuncId} {fn : Func} {s : ChangeSpec} {conds : List PathCond} {apart fresh handsOn again : Bool} {X : World → Array Value → Prop}
    (hX : ∀ (w w' : World) (args : Array Value), w.heap = w'.heap → X w args → X w' args)
    (own : ownKnob C.prog.godebug = none) (started : os.Started) (noInit : C.prog.inits.idxOf? f = none) (hfn : C.prog.funcs[f]? = some fn)
    (witness : ∃ (w : World) (tape : Tape) (i : Input), w.os = os ∧ (w.forCall tape i).Shaped C.prog ∧ i.vars = [] ∧ Input.okWide C.prog (w.forCall tape i) .any w.heap.size f i ∧
      ((s.pre enc C.prog fn conds apart (w.forCall tape i).memory i.args ∧ X (w.forCall tape i).memory i.args) ∧ sizedMet enc C.prog fn (OpenSpec.ofChange s) apart (w.forCall tape i).memory i.args) ∧ a.holds C.prog (lone (Frame.enter C.prog f i.args .normal) [] (w.forCall tape i)))
    (contract : ∀ (W : World) (base : Nat) (args : Array Value) (ds gs : List (DataW H)) (before : List MemPlace),
      (∀ (j : Nat) t v, fn.params[j]? = some t → args[j]? = some v → Value.okWide C.prog W .any base t v) →
      DataW.Whole enc C.prog fn.params.toList s.vars apart W args.toList ds gs before →
      conds.all (PathCond.test C.prog ⟨fn.params.toList, ds, s.plain.varTypes C.prog, gs⟩) = true →
      W.ShapedOpen C.prog → X W args →
      a.holds C.prog (lone (Frame.enter C.prog f args .normal) [] W) →
      Calls C.prog f args W fun e W' => ∃ v, e = .returned v ∧ s.post enc C.prog fn apart fresh handsOn again W args v W') :
    ReturnsInHanded a C os f .any (fun w args => (s.pre enc C.prog fn conds apart w args ∧ X w args) ∧ sizedMet enc C.prog fn (OpenSpec.ofChange s) apart w args) (s.post enc C.prog fn apart fresh handsOn again) := by
  refine returnsInHanded_of_calls own started noInit witness ?_
  intro w tape i _ hsh _ hok hpre hholds
  obtain ⟨_, _, _, fn', hfn', _, _, _, _, hval⟩ := hok
  have e : fn' = fn := Option.some.inj (hfn'.symm.trans hfn)
  subst e
  obtain ⟨⟨⟨ds, gs, before, hw, hc⟩, hx⟩, hz⟩ := hpre
  have hw' := DataW.Whole.of_heap (w' := w.forCall tape i) (by rfl) hw
  refine (contract (w.forCall tape i) w.heap.size i.args ds gs before hval hw' hc hsh (hX _ _ _ (by rfl) hx) hholds).mono fun e W' ⟨v, he, hp⟩ => ?_
  subst he
  exact ChangeSpec.post_blind hp
end
theorem star : "*" ++ "errors.errorString" = "*errors.errorString" := by decide
theorem rowE (u : TypeId) (h : Tryd.prog.typeName? 3 u = some "*errors.errorString") : u = 91 :=
  typeName_ptr_named (nm := "errors.errorString") (by rw [star]; kernel_rfl) (by kernel_rfl) (by decide) u (by rw [star]; exact h)
theorem hv_of {W : World} (hS : W.ShapedOpen Tryd.prog) {n0 n1 n3 : String} {d0 d1 d3 : DataW Unit} {r : List (String × DataW Unit)}
    (h : laidMet Tryd.prog ((n0, d0) :: (n1, d1) :: ("internal/strconv.uint64pow10", Rows.laid_internal_strconv_uint64pow10) :: (n3, d3) :: ("strconv.ErrRange", Rows.laid_strconv_ErrRange) :: ("strconv.ErrSyntax", Rows.laid_strconv_ErrSyntax) :: r) W) : HV W := by
  have e : (Rows.laid_internal_strconv_uint64pow10 : DataW Unit) = Go.Lib.tabData .u64 Go.Lib.pow10Tab := by kernel_rfl
  have h2 := h.tail.tail
  rw [e] at h2
  have h4 := h.tail.tail.tail.tail
  refine ⟨?_, ?_, ?_, ?_⟩
  · exact cell_of_shapedOpen_int (zero := #[.int .i64 0]) (t := 3) hS (of_decide_eq_true (by kernel_rfl)) (by kernel_rfl) rfl (by kernel_rfl) (by kernel_rfl) Tryd.underlying3
  · exact Go.Lib.tabIs_of_head (g := 2) (t := 84) (e := 24) (n := 20) (by kernel_rfl) (by kernel_rfl) Tryd.underlying84 Tryd.underlying24 (by kernel_rfl) (by kernel_rfl) h2
  · obtain ⟨a1, s1, hv1, -, -, -⟩ := laid_sentinel (g := 0) (ti := 48) (te := 93) (ts := 9) h4.tail (by kernel_rfl) (by kernel_rfl) Tryd.underlying48 rowE Tryd.underlying91 Tryd.underlying93 rfl rfl Tryd.underlying9 (by kernel_rfl) (by kernel_rfl)
    exact ⟨_, _, hv1⟩
  · obtain ⟨a0, s0, hv0, -, -, -⟩ := laid_sentinel (g := 1) (ti := 48) (te := 93) (ts := 9) h4 (by kernel_rfl) (by kernel_rfl) Tryd.underlying48 rowE Tryd.underlying91 Tryd.underlying93 rfl rfl Tryd.underlying9 (by kernel_rfl) (by kernel_rfl)
    exact ⟨_, _, hv0⟩
theorem hv_format {W : World} (hS : W.ShapedOpen Tryd.prog) (h : laidMetH Tryd.prog Rows.handleFormatRow.laid W) : HV W := by
  rw [Go.MakeChecks.laidMetH_plain _ _ _ (by kernel_rfl)] at h
  exact hv_of hS h
theorem hv_parse {W : World} (hS : W.ShapedOpen Tryd.prog) (h : laidMetH Tryd.prog Rows.handleParseRow.laid W) : HV W := by
  rw [Go.MakeChecks.laidMetH_plain _ _ _ (by kernel_rfl)] at h
  exact hv_of hS h
end Go.Proofs.YtddofamkmcgfmaaDoor
