/- make, copy, clear as laws of the engine; a loop unrolled once; a block as a row that is shorter than it. -/
import Derived.Test.YtddofamkmcgfmaaDoorEng11
import Derived.Laws.CopyRow
import Derived.Laws.MakeOwn
import Derived.Deep.OwnRows
namespace Go.Proofs.YtddofamkmcgfmaaDoor
open Go.RowKit Go.Shelf
set_option linter.unusedVariables false
set_option linter.unusedSimpArgs false
section
variable {P : Program} {M : List Nat} {W : World} {L : List Res}
theorem xv_make {F : Fr} {d : Option Nat} {t e ty : TypeId} {pos : String} {af : Array Edge} {gd : Option (Nat × Bool)} {l c : Operand} {K : Bool → Value → List Res → Prop} {bytes n : Nat} {kl kc : IntKind} {u : Value}
    (ht : tap P t = some (e, 1, bytes)) (hu : tzero P e = some [u]) (hl : ev F l = .int kl (n : Int)) (hc : ev F c = .int kc (n : Int)) (hb : bytes * n ≤ 281474976710656) (h63 : n ≤ 9223372036854775807)
    (hK : ∀ b, W.heap.size ≤ b → fresh L b → K true (.slice (some ⟨b, 0, none⟩) n n) (.blk b e (List.replicate n u) :: L)) :
    XV P M W ⟨d, .makeSlice t l c, ty, pos, af, gd⟩ F L K := by
  intro w hw
  obtain ⟨hut, i, z, hi, hz, hsz, hby, hzs, hsz0⟩ := tap_run ht
  have hzc : z.cells = #[u] := by
    unfold tzero at hu
    rw [hi] at hu
    simp only [hz] at hu
    have : z.cells.toList = [u] := by simpa using hu
    rw [← this]
  have hb' : (i.bytes : Int) * (n : Int) ≤ 281474976710656 := by
    rw [hby]
    have h : ((bytes * n : Nat) : Int) ≤ 281474976710656 := by omega
    rwa [Int.natCast_mul] at h
  have hr := run_make (P := P) w t e i z hut hi hz kl kc n n (by omega) (Int.le_refl _) hb' (by omega)
  simp only [Int.toNat_natCast, hsz, Nat.mul_one, hzc] at hr
  refine ⟨_, _, _, ?_, hw.alloc e (List.replicate n u), hK w.heap.size hw.pres.size (fresh_of hw)⟩
  have e1 : (List.replicate n u).toArray = madeCells #[u] n := by rw [← toList_madeCells_one]
  simp only [execOp, hl, hc, Sem.run_bind, hr, Result.andThen_ok, Sem.run_pure, e1]
theorem pres_setRow (w : World) (b : Nat) (cs : Array Value) : Pres [b] w (w.setRow b cs) :=
  ⟨rfl, rfl, rfl, by simp [World.setRow], fun j _ hj => setRow_other w b j cs (by simpa using hj)⟩
theorem xv_copy (k : Nat) {F : Fr} {d : Option Nat} {dT sT e T ty : TypeId} {pos : String} {af : Array Edge} {gd : Option (Nat × Bool)} {x y : Operand} {K : Bool → Value → List Res → Prop} {bytes b o n c m c' : Nat} {a : Addr} {us news : List Value}
    (ht : tap P dT = some (e, 1, bytes)) (hx : ev F x = .slice (some ⟨b, o, none⟩) n c) (hy : ev F y = .slice (some a) m c') (hk : nth L k = some (.blk b T us))
    (hn : news.length = Nat.min m n) (hsrc : ∀ w, St M W L w → ∀ j v, news[j]? = some v → w.cell? (a.add j) = some v) (hfit : o + news.length ≤ us.length) (h1 : ones news = true)
    (hK : K true (.int .i64 (news.length : Int)) (L.set k (.blk b T (us.take o ++ news ++ us.drop (o + news.length))))) :
    XV P M W ⟨d, .call { callee := .builtin .copy, args := #[x, y], argTypes := #[dT, sT] }, ty, pos, af, gd⟩ F L K := by
  intro w hw
  obtain ⟨hut, i, z, hi, hz, hsz, hby, hzs, hsz0⟩ := tap_run ht
  have hmem := nth_mem hk
  have hh : w.heap[b]? = some (.cells us.toArray T (0, 0)) := hw.holds _ hmem
  have hr := run_copy_row (P := P) w dT sT ty e b o n c a m c' us.toArray T news hut (by rw [hi]; simp [hsz]) hh hn (hsrc w hw) (by simpa using hfit) (fun v hv => List.all_eq_true.1 h1 v hv)
  refine ⟨_, _, _, ?_, hw.mod hk (pres_setRow w b _) (setRow_heap w b us.toArray (us.toArray.toList.take o ++ news ++ us.toArray.toList.drop (o + news.length)).toArray T (0, 0) hh), hK⟩
  simp only [execOp, resolve, Sem.run_bind, Sem.run_pure, Result.andThen_ok, invoke, builtin, List.map_toArray, List.map_cons, List.map_nil, hx, hy, hr]
  rfl
theorem xv_clear (k : Nat) {F : Fr} {d : Option Nat} {t e T ty : TypeId} {pos : String} {af : Array Edge} {gd : Option (Nat × Bool)} {x : Operand} {K : Bool → Value → List Res → Prop} {bytes b o n c : Nat} {u : Value} {us : List Value}
    (ht : tap P t = some (e, 1, bytes)) (hu : tzero P e = some [u]) (hu1 : u.oneCell' = true) (hx : ev F x = .slice (some ⟨b, o, none⟩) (n + 1) c) (hk : nth L k = some (.blk b T us)) (hfit : o + (n + 1) ≤ us.length)
    (hK : K true (.tuple #[]) (L.set k (.blk b T (us.take o ++ List.replicate (n + 1) u ++ us.drop (o + (n + 1)))))) :
    XV P M W ⟨d, .call { callee := .builtin .clear, args := #[x], argTypes := #[t] }, ty, pos, af, gd⟩ F L K := by
  intro w hw
  obtain ⟨hut, i, z, hi, hz, hsz, hby, hzs, hsz0⟩ := tap_run ht
  have hzc : z.cells = #[u] := by
    unfold tzero at hu
    rw [hi] at hu
    simp only [hz] at hu
    have : z.cells.toList = [u] := by simpa using hu
    rw [← this]
  have hh : w.heap[b]? = some (.cells us.toArray T (0, 0)) := hw.holds _ (nth_mem hk)
  have hzl : (Builtin.zeroCells z.cells (n + 1)).toList = List.replicate (n + 1) u := by
    rw [hzc]
    apply List.ext_getElem?
    intro j
    by_cases hj : j < n + 1
    · have h1 : j % 1 = 0 := Nat.mod_one j
      simp [Builtin.zeroCells, hj, h1, Array.getElem?_range]
    · simp [Builtin.zeroCells, hj]
  have hst := run_storeCells_at P b o T (List.replicate (n + 1) u) 0 us.toArray w hh (by simpa using hfit) (by intro v hv; rw [List.eq_of_mem_replicate hv]; exact hu1)
  have hr : (Builtin.clear_ #[t] ty #[.slice (some ⟨b, o, none⟩) (n + 1) c]).run P w = .ok (.tuple #[]) (w.setRow b (us.take (o + 0) ++ List.replicate (n + 1) u ++ us.drop (o + 0 + (List.replicate (n + 1) u).length)).toArray) := by
    simp [Builtin.clear_, run_underlying hut, zeroValue, typeInfo, hi, hz, hzl]
    simpa using congrArg (fun r => r.andThen fun _ w => Result.ok (Value.tuple #[]) w) hst
  refine ⟨_, _, _, ?_, hw.mod hk (pres_setRow w b _) (setRow_heap w b us.toArray (us.take (o + 0) ++ List.replicate (n + 1) u ++ us.drop (o + 0 + (List.replicate (n + 1) u).length)).toArray T (0, 0) hh), by simpa using hK⟩
  simp only [execOp, resolve, Sem.run_bind, Sem.run_pure, Result.andThen_ok, invoke, builtin, List.map_toArray, List.map_cons, List.map_nil, hx, hr]
variable {n : Nat} {F : Fr} {Q : Exit → Fr → List Res → Prop}
/-- So many rounds of a loop, walked one by one. -/
def timesV (P : Program) (M : List Nat) (W : World) (n : Nat) (c : Code) (Q : Exit → Fr → List Res → Prop) : Nat → Fr → List Res → Prop
  | 0, _, _ => False
  | m + 1, F, L => CV P M W n c F L (thenQ (timesV P M W n c Q m) Q)
theorem cv_times {c : Code} (m : Nat) (h : timesV P M W n c Q m F L) : CV P M W n (.loop c) F L Q := fun a w ha hw => by
  intro b k cs
  have key : ∀ m F L a w, timesV P M W n c Q m F L → FrOK n a F → St M W L w →
      ∃ e a' w', liftQ M W n Q e a' w' ∧ Arrives P (lone (b.at a (.code c :: .inLoop c :: k)) cs w) b k cs e a' w' := by
    intro m
    induction m with
    | zero => intro F L a w h; exact h.elim
    | succ m ih =>
      intro F L a w hI ha hw
      obtain ⟨e, a₁, w₁, hq, harr⟩ := hI a w ha hw b (.inLoop c :: k) cs
      cases e with
      | normal =>
        obtain ⟨F', L', h1, h2, hI₁⟩ := hq
        obtain ⟨e₂, a₂, w₂, hq₂, harr₂⟩ := ih F' L' a₁ w₁ hI₁ h1 h2
        exact ⟨e₂, a₂, w₂, hq₂, .of_steps (Steps.trans harr (.one step_inLoop)) harr₂⟩
      | exit id => exact ⟨.exit id, a₁, w₁, hq, .pass (x := .inLoop c) rfl (fun _ _ => .inl (by simp)) harr⟩
      | goto l => exact ⟨.goto l, a₁, w₁, hq, .pass (x := .inLoop c) rfl (fun _ _ => .inl (by simp)) harr⟩
      | ret => exact ⟨.ret, a₁, w₁, hq, .pass (x := .inLoop c) rfl (fun _ _ => .inl (by simp)) harr⟩
      | panic ch => exact hq.elim
      | outgrown => exact hq.elim
  obtain ⟨e, a', w', hq, harr⟩ := key m F L a w h ha hw
  exact ⟨e, a', w', hq, .of_steps (.one step_loop) harr⟩
theorem St.blk_pre {w : World} {b : Nat} {t : TypeId} {size n c : Nat} {cs : List Value} (h : St M W (.blk b t cs :: L) w) (hl : cs.length = c * size) (hnc : n ≤ c) (hn : c ≤ 9223372036854775807) : St M W (.row (.slice (some ⟨b, 0, none⟩) n c) t size n (cs.take (n * size)) :: L) w := by
  have ho := h.own _ (.head _)
  refine h.tail.add _ ⟨by rw [List.length_take, hl, Nat.min_eq_left (Nat.mul_le_mul_right _ hnc)], .inr ⟨b, c, cs.toArray, rfl, Nat.zero_le _, h.holds _ (.head _), hnc, by unfold maxLen; omega, by simpa using hl, by simp⟩⟩ ?_ ?_
  · intro b' hb'
    exact ho b' (by simpa [Res.foot, Value.ownBlock] using hb')
  · intro s hs b' hb' hbs
    exact (List.pairwise_cons.1 h.apart).1 s hs b' (by simpa [Res.foot, Value.ownBlock] using hb') hbs
theorem cv_blkpre {c : Code} {b : Nat} {t : TypeId} {cs : List Value} (size k cap : Nat) (hl : cs.length = cap * size) (hk : k ≤ cap) (hn : cap ≤ 9223372036854775807) (h : CV P M W n c F (.row (.slice (some ⟨b, 0, none⟩) k cap) t size k (cs.take (k * size)) :: L) Q) : CV P M W n c F (.blk b t cs :: L) Q := fun a w ha hw => h a w ha (hw.blk_pre hl hk hn)
end
end Go.Proofs.YtddofamkmcgfmaaDoor
