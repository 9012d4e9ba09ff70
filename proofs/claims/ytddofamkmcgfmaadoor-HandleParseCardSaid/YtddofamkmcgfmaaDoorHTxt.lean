/- Texts of numbers, and the pieces of a text: the library's contracts; rules for runes, arrays, errors. -/
import Derived.Test.YtddofamkmcgfmaaDoorHDig
import Derived.Test.YtddofamkmcgfmaaDoorHPln
import Derived.Test.YtddofamkmcgfmaaDoorHLay
import Derived.Test.YtddofamkmcgfmaaDoorFlEng
import Derived.WideLaws
namespace Go.Proofs.YtddofamkmcgfmaaDoor
open Go.RowKit Go.Shelf Go.Sort
set_option linter.unusedVariables false
set_option linter.unusedSimpArgs false
set_option maxRecDepth 100000
section
variable {P : Program} {M : List Nat} {W w : World} {L L0 : List Res} {F : Fr}
theorem utf_one : ∀ r : Nat, r < 128 → Utf8.encode (r : Int) = ByteArray.mk #[UInt8.ofNat r] := by
  have key : ∀ r : Fin 128, Utf8.encode ((r.val : Nat) : Int) = ByteArray.mk #[UInt8.ofNat r.val] := by decide +kernel
  exact fun r h => key ⟨r, h⟩
theorem exec_rune {o : Oper} {s d : TypeId} {x : Operand} {k k0 : IntKind} {r : Nat} (ho : o.op = .convert s d x) (hs : P.underlying s = some (.int k0)) (hd : P.underlying d = some .string) (hx : ev F x = .int k (r : Int)) (hr : r < 128) :
    (execOp (ev F) o).run P w = .ok (.value (.string (bstr [r]))) w := by
  obtain ⟨dst, op, ty, pos, after, guard⟩ := o
  subst ho
  have e : Utf8.encode (r : Int) = bstr [r] := by rw [utf_one r hr, bstr_eq]; rfl
  simp [execOp, hx, convert, run_underlying hs, run_underlying hd, Conv.intToString, e]
theorem exec_idx {o : Oper} {t e : TypeId} {n i : Nat} {x y : Operand} {k : IntKind} {cs : Array Value} {v : Value} (ho : o.op = .index t x y) (ht : P.underlying t = some (.array n e)) (hz : ∀ w, (Go.sizeOf e).run P w = .ok 1 w) (ha : ∀ w, (isAgg e).run P w = .ok false w)
    (hx : ev F x = .agg cs) (hy : ev F y = .int k (i : Int)) (hi : i < n) (hv : cs[i]? = some v) :
    (execOp (ev F) o).run P w = .ok (.value v) w := by
  obtain ⟨dst, op, ty, pos, after, guard⟩ := o
  subst ho
  have h1 : (0 : Int) ≤ i ∧ (i : Int) < n := by omega
  simp [execOp, hx, hy, Instr.index, asIntOf, run_underlying ht, h1, hz, ha, part, hv]
  intro h
  omega
theorem exec_neq0 {o : Oper} {t t' : TypeId} {x : Operand} {c : Value} (ho : o.op = .binOp .neq t x (.const c) t') (ht : P.underlying t = some (.interface (P.methodsAt t))) (hx : ev F x = .nilIface) (hc : c = .nilIface) :
    (execOp (ev F) o).run P w = .ok (.value (.bool false)) w := by
  obtain ⟨dst, op, ty, pos, after, guard⟩ := o
  subst ho hc
  have hy : ev F (.const .nilIface) = .nilIface := rfl
  simp [execOp, hx, hy, eqGuard_nil_constR, run_neq_nil_nil _ _ ht]
theorem exec_neq1 {o : Oper} {t t' : TypeId} {x : Operand} {c : Value} {u : TypeId} {q : Value} (ho : o.op = .binOp .neq t x (.const c) t') (ht : P.underlying t = some (.interface (P.methodsAt t))) (hx : ev F x = .iface u q) (hc : c = .nilIface) :
    (execOp (ev F) o).run P w = .ok (.value (.bool true)) w := by
  obtain ⟨dst, op, ty, pos, after, guard⟩ := o
  subst ho hc
  have hg : eqGuard .neq t x (.const .nilIface) (.iface u q) .nilIface = pure () := by cases x <;> rfl
  have hy : ev F (.const .nilIface) = .nilIface := rfl
  simp [execOp, hx, hy, hg, run_neq_held_nil _ _ _ _ ht]
theorem xv_rune {d0 : Option Nat} {s d ty : TypeId} {x : Operand} {pos : String} {af : Array Edge} {gd : Option (Nat × Bool)} {k : IntKind} (k0 : IntKind) (r : Nat) {K : Bool → Value → List Res → Prop} (hs : P.underlying s = some (.int k0)) (hd : P.underlying d = some .string) (hx : ev F x = .int k (r : Int)) (hr : r < 128)
    (hK : K true (.string (bstr [r])) L) : XV P M W ⟨d0, .convert s d x, ty, pos, af, gd⟩ F L K := fun w hw => ⟨_, _, w, exec_rune rfl hs hd hx hr, hw, hK⟩
theorem rx_rune {d0 : Option Nat} {s d ty : TypeId} {x : Operand} {pos : String} {af : Array Edge} {gd : Option (Nat × Bool)} {k : IntKind} (k0 : IntKind) (r : Nat) {K : Bool → Value → Prop} (hs : P.underlying s = some (.int k0)) (hd : P.underlying d = some .string) (hx : ev F x = .int k (r : Int)) (hr : r < 128)
    (hK : ∀ tok, tok = true → K tok (.string (bstr [r]))) : RX P M W ⟨d0, .convert s d x, ty, pos, af, gd⟩ F L0 K := ⟨_, fun w _ => exec_rune rfl hs hd hx hr, hK⟩
end
structure HV (W : World) : Prop where
  mx : ∃ m, W.cell? ⟨splitLay_ren.g 1, 0, none⟩ = some (.int .i64 m)
  tab : Go.Lib.TabIs Tryd.prog W "internal/strconv.uint64pow10" .u64 Go.Lib.pow10Tab
  syn : ∃ tp p, W.var? Tryd.prog "strconv.ErrSyntax" = some #[.iface tp p]
  rng : ∃ tp p, W.var? Tryd.prog "strconv.ErrRange" = some #[.iface tp p]
theorem var_kept {P : Program} {W w : World} {nm : String} {cs : Array Value} (h : W.var? P nm = some cs) (hk : ∀ g, g < W.heap.size → w.heap[g]? = W.heap[g]?) : w.var? P nm = some cs := by
  unfold World.var? at h ⊢
  cases hg : P.globalNamed nm with
  | none => rw [hg] at h; cases h
  | some g =>
    rw [hg] at h
    simp only [Option.bind_some] at h ⊢
    have hlt : g < W.heap.size := by
      rcases Nat.lt_or_ge g W.heap.size with hh | hh
      · exact hh
      · rw [Array.getElem?_eq_none hh] at h; cases h
    rw [hk g hlt]
    exact h
theorem cell_kept {W w : World} {b : Nat} {v : Value} (h : W.cell? ⟨b, 0, none⟩ = some v) (hk : ∀ g, g < W.heap.size → w.heap[g]? = W.heap[g]?) : w.cell? ⟨b, 0, none⟩ = some v := by
  have hlt : b < W.heap.size := World.block_lt_of_cell? _ _ h
  simp only [World.cell?] at h ⊢
  rw [hk b hlt]
  exact h
theorem HV.at {W w : World} {L : List Res} (h : HV W) (hw : St [] W L w) : HV w := by
  have hk : ∀ g, g < W.heap.size → w.heap[g]? = W.heap[g]? := fun g hg => hw.pres.block g hg (by simp)
  obtain ⟨m, hm⟩ := h.mx
  obtain ⟨t1, p1, h1⟩ := h.syn
  obtain ⟨t2, p2, h2⟩ := h.rng
  exact ⟨⟨m, cell_kept hm hk⟩, var_kept h.tab hk, ⟨t1, p1, var_kept h1 hk⟩, ⟨t2, p2, var_kept h2 hk⟩⟩
theorem below_grow (w : World) (k : Nat) (os : Array Obj) : Below w.heap.size w (grow (w.drewN k) os) := by
  have h1 : ∀ k, (w.drewN k).os = w.os ∧ (w.drewN k).tape = w.tape ∧ (w.drewN k).output = w.output ∧ (w.drewN k).heap = w.heap := fun k => ⟨rfl, rfl, rfl, rfl⟩
  obtain ⟨a, b, c, d⟩ := h1 k
  refine ⟨a, b, c, ?_, fun i hi => ?_⟩
  · simp [d]
  · simp only [grow, d]
    rw [Array.getElem?_append_left hi]
theorem dec_str (n : Nat) : (⟨(Go.Lib.itoa (n : Int)).toArray⟩ : ByteArray) = bstr (dec n) := by
  rw [bstr_eq, Go.Lib.itoa_nonneg, ← dec_lib]
theorem itoa_any (n : Nat) (hn : n ≤ 9223372036854775807) (W : World) (hv : HV W) : Calls Tryd.prog 25 #[.int .i64 (n : Int)] W fun e w' => e = .returned (.string (bstr (dec n))) ∧ Below W.heap.size W w' := by
  have c := Any.strconv_Itoa itoaLay (n : Int) (by omega) (by omega) W hv.tab
  refine Calls.mono c ?_
  rintro e w' ⟨rfl, k, os, rfl⟩
  exact ⟨by rw [dec_str], below_grow _ _ _⟩
theorem bstr_data (l : List Nat) : (bstr l).data.toList = l.map UInt8.ofNat := by rw [bstr_eq]
theorem data_inj : ∀ {xs ys : List ByteArray}, xs.map (·.data.toList) = ys.map (·.data.toList) → xs = ys
  | [], [], _ => rfl
  | [], _ :: _, h => by simp at h
  | _ :: _, [], h => by simp at h
  | ⟨⟨x⟩⟩ :: xs, ⟨⟨y⟩⟩ :: ys, h => by
    simp only [List.map_cons, List.cons.injEq] at h
    obtain ⟨h1, h2⟩ := h
    rw [data_inj h2]
    subst h1
    rfl
def strs (l : List (List Nat)) : List Value := l.map fun p => Value.string (bstr p)
theorem split_any (l : List Nat) (hl : l.length ≤ 1000) (hb : ∀ x ∈ l, x < 256) (W : World) (hv : HV W) :
    Calls Tryd.prog 26 #[.string (bstr l), .string (ByteArray.mk #[47])] W fun e w' => e = .returned (.slice (some ⟨W.heap.size, 0, none⟩) (spl 47 l).length (spl 47 l).length) ∧ w' = W.alloc (.cells (strs (spl 47 l)).toArray 9) := by
  obtain ⟨m, hm⟩ := hv.mx
  have c := Any.strings_Split splitLay (by kernel_rfl) (bstr l) ⟨#[47]⟩ m W (by rw [bstr_size]; omega) hm (by decide)
  have hcnt : Go.Lib.countB (bstr l) ⟨#[47]⟩ = (l.map UInt8.ofNat).count (UInt8.ofNat 47) := by
    show Go.Lib.count (bstr l).data.toList [47] = _
    rw [bstr_data, Go.Lib.count_one]
    rfl
  have h1 : Go.Lib.splitB ⟨#[47]⟩ 0 (Go.Lib.countB (bstr l) ⟨#[47]⟩) (bstr l) = (spl 47 l).map bstr := by
    refine data_inj ?_
    rw [Go.Lib.splitB_data, hcnt, bstr_data, List.map_map]
    refine (lib_split 47 (by decide) l.length l (Nat.le_refl _) hb).trans ?_
    exact List.map_congr_left fun p _ => (bstr_data p).symm
  have h2 : Go.Lib.countB (bstr l) ⟨#[47]⟩ + 1 = (spl 47 l).length := by
    have := Go.Lib.splitB_all ⟨#[47]⟩ (by decide) 0 _ (bstr l) rfl
    rw [h1, List.length_map] at this
    exact this.symm
  refine Calls.mono c ?_
  rintro e w' ⟨rfl, rfl⟩
  rw [h1, h2, List.map_map]
  exact ⟨rfl, rfl⟩
theorem parse_val : ∀ (l : List Nat) (a : Nat), (∀ x ∈ l, 48 ≤ x ∧ x ≤ 57) → val10 a l ≤ 4294967295 → Go.Lib.parseUint10 a (l.map UInt8.ofNat) = .ok (val10 a l)
  | [], a, _, _ => rfl
  | x :: r, a, hd, hv => by
    have hx := hd x (by simp)
    have hm := val10_mono r (10 * a + (x - 48))
    have hv' : val10 (10 * a + (x - 48)) r ≤ 4294967295 := hv
    have e : (UInt8.ofNat x).toNat = x := by simp; omega
    simp only [List.map_cons, Go.Lib.parseUint10, e]
    rw [if_pos hx, if_neg (by omega), if_neg (by omega), show a * 10 + (x - 48) = 10 * a + (x - 48) by omega]
    exact parse_val r _ (fun y hy => hd y (by simp [hy])) hv'
theorem atoi_dec {v : Nat} (hv : v ≤ 4294967295) : Go.Lib.atoiAll ((dec v).map UInt8.ofNat) = .ok (v : Int) := by
  have h1 := parse_val (dec v) 0 (dec_dig v) (by rw [val_dec]; exact hv)
  rw [val_dec] at h1
  have hd := dec_dig v
  have hne := dec_ne v
  generalize dec v = l at *
  cases l with
  | nil => exact absurd rfl hne
  | cons x r =>
    have hx := hd x (by simp)
    have e : (UInt8.ofNat x).toNat = x := by simp; omega
    simp only [List.map_cons] at h1 ⊢
    unfold Go.Lib.atoiAll
    dsimp only
    rw [e, if_neg (by omega)]
    unfold Go.Lib.parseMag
    rw [if_neg (by simp), h1]
    dsimp only
    rw [if_neg (by omega), if_neg (by omega), if_neg (by omega)]
def AtR (p : List Nat) (x : Int) (er : Value) : Prop := (er = .nilIface ∧ Go.Lib.atoiAll (p.map UInt8.ofNat) = .ok x) ∨ ((∃ t q, er = .iface t q) ∧ ∀ v, Go.Lib.atoiAll (p.map UInt8.ofNat) ≠ .ok v)
theorem atoi_any (p : List Nat) (hl : p.length ≤ 1000) (W : World) (hv : HV W) : Calls Tryd.prog 27 #[.string (bstr p)] W fun en w' => ∃ i : Int × Value, en = .returned (.tuple #[.int .i64 i.1, i.2]) ∧ AtR p i.1 i.2 ∧ Below W.heap.size W w' := by
  obtain ⟨t1, p1, h1⟩ := hv.syn
  obtain ⟨t2, p2, h2⟩ := hv.rng
  rcases h : Go.Lib.atoiAll (bstr p).data.toList with v | _ | _
  · have c := Any.strconv_Atoi_ok atoiLay (bstr p) (by rw [bstr_size]; omega) v h W
    rw [bstr_data] at h
    refine Calls.mono c ?_
    rintro e w' ⟨rfl, h3⟩
    refine ⟨(v, .nilIface), rfl, .inl ⟨rfl, h⟩, ?_⟩
    rcases h3 with rfl | ⟨t, rfl⟩
    · exact Below.refl _ _
    · exact Go.Lib.bytesWorld_below _ _ _
  · have c := Any.strconv_Atoi_syntax_var atoiLay (bstr p) (by rw [bstr_size]; omega) h t1 p1 W h1
    rw [bstr_data] at h
    refine Calls.mono c ?_
    rintro e w' ⟨N, rfl, -, -, hb⟩
    exact ⟨(0, _), rfl, .inr ⟨⟨_, _, rfl⟩, fun v hv => by rw [h] at hv; cases hv⟩, hb⟩
  · have c := Any.strconv_Atoi_range_var atoiLay (bstr p) (by rw [bstr_size]; omega) h t2 p2 W h2
    rw [bstr_data] at h
    refine Calls.mono c ?_
    rintro e w' ⟨N, rfl, -, -, hb⟩
    exact ⟨(_, _), rfl, .inr ⟨⟨_, _, rfl⟩, fun v hv => by rw [h] at hv; cases hv⟩, hb⟩
/-- The code's test of a piece. -/
theorem piece_ok {p : List Nat} {x : Int} {er : Value} {most : Nat} (hm : most ≤ 4294967295) (h : AtR p x er) :
    ((numF p most).2 = true ∧ er = .nilIface ∧ x = ((numF p most).1 : Int) ∧ dec (numF p most).1 = p ∧ (numF p most).1 ≤ most) ∨
    ((numF p most).2 = false ∧ ((∃ t q, er = .iface t q) ∨ (er = .nilIface ∧ (x < 0 ∨ (most : Int) < x ∨ ∃ v : Nat, x = (v : Int) ∧ v ≤ most ∧ ¬ dec v = p)))) := by
  cases hf : (numF p most).2 with
  | true =>
    obtain ⟨h1, h2⟩ := numF_inv hf
    have ha := atoi_dec (v := (numF p most).1) (by omega)
    rw [← h1] at ha
    rcases h with ⟨h3, h4⟩ | ⟨-, h4⟩
    · rw [ha] at h4
      injection h4 with h4
      exact .inl ⟨rfl, h3, h4.symm, h1.symm, h2⟩
    · exact absurd ha (h4 _)
  | false =>
    refine .inr ⟨rfl, ?_⟩
    rcases h with ⟨h3, h4⟩ | ⟨h3, -⟩
    · refine .inr ⟨h3, ?_⟩
      by_cases hx : x < 0
      · exact .inl hx
      · by_cases hx2 : (most : Int) < x
        · exact .inr (.inl hx2)
        · refine .inr (.inr ⟨x.toNat, by omega, by omega, fun e => ?_⟩)
          have := numF_dec (v := x.toNat) (most := most) (by omega)
          rw [e] at this
          rw [this] at hf
          cases hf
    · exact .inl h3
end Go.Proofs.YtddofamkmcgfmaaDoor
