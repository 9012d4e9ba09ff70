/- append(b, make([]T, k)...): a row of the call's own grows by zeros. -/
import Derived.Test.YtehfnjaompkikaaEng11
import Derived.Lib.AppendZerosOnto
namespace Go.Proofs.Ytehfnjaompkikaa
open Go.RowKit Go.Shelf
set_option linter.unusedVariables false
set_option linter.unusedSimpArgs false
section
variable {P : Program}
theorem run_append_zeros (w : World) (t tn ty e : TypeId) (i : TypeInfo) (z : Value) (kq kn : IntKind) (ht : P.underlying t = some (.slice e)) (htn : P.underlying tn = some (.int kn)) (hi : P.info? e = some i) (hz : i.zero = some z)
    (hzs : z.cells.size = i.size) (hsz : 0 < i.size) (g n cap : Nat) (xs : List Value) (hown : w.ownsRow 0 e i.size (.slice (some ⟨g, 0, none⟩) n cap) n xs) (k : Nat) (h0 : 0 < k) (h1 : ∀ u ∈ (Builtin.zeroCells z.cells k).toList, u.oneCell' = true)
    (h63 : n + k ≤ maxLen) (h48 : k * i.bytes ≤ 281474976710656) (hbytes : (n + k) * i.bytes ≤ 140737488355328) :
    ∃ v' w', (Builtin.append_ #[t, tn] ty #[.slice (some ⟨g, 0, none⟩) n cap, .int kq k]).run P w = .ok v' w' ∧ w'.ownsRow 0 e i.size v' (n + k) (xs ++ (Builtin.zeroCells z.cells k).toList) ∧ w.grownBy w' (some g) ∧
      (v'.ownBlock = some g ∨ v'.ownBlock = some w.heap.size) := by
  have hl : (Builtin.zeroCells z.cells k).toList.length = k * i.size := by rw [Array.length_toList, size_zeroCells, hzs]
  have hlen : (xs ++ (Builtin.zeroCells z.cells k).toList).length = (n + k) * i.size := by rw [List.length_append, hown.1, hl, Nat.add_mul]
  rcases hown.2 with ⟨hv, -⟩ | ⟨g', cap', cur, hv, -, hg, hnc, hcm, hcs, htake⟩
  · cases hv
  cases hv
  by_cases hroom : n + k ≤ cap
  · have hfit : n * i.size + (Builtin.zeroCells z.cells k).toList.length ≤ cur.size := by rw [hl, hcs, ← Nat.add_mul]; exact Nat.mul_le_mul_right _ hroom
    have hst := run_storeCells_at P g (n * i.size) e (Builtin.zeroCells z.cells k).toList 0 cur w hg (by omega) h1
    obtain ⟨new, hnew⟩ : ∃ X, (cur.toList.take (n * i.size + 0) ++ (Builtin.zeroCells z.cells k).toList ++ cur.toList.drop (n * i.size + 0 + (Builtin.zeroCells z.cells k).toList.length)).toArray = X := ⟨_, rfl⟩
    rw [hnew] at hst
    have hk : k ≠ 0 := by omega
    have hw : IntKind.i64.wrap (k : Int) = k := by rw [IntKind.wrap_i64]; unfold maxLen at h63; omega
    have h48i : ¬ (281474976710656 < (k : Int) * (i.bytes : Int)) := by
      rw [← Int.natCast_mul]
      omega
    have hneg : ¬ ((k : Int) < 0) := by omega
    have hns : ¬ (k * i.size = 0) := Nat.mul_ne_zero hk (by omega)
    refine ⟨.slice (some ⟨g, 0, none⟩) (n + k) cap, w.setRow g new, ?_, ⟨hlen, .inr ⟨g, cap, new, rfl, Nat.zero_le _, setRow_heap w g cur _ e _ hg, hroom, hcm, ?_, ?_⟩⟩, ⟨rfl, rfl, rfl, by simp, fun j _ hj => setRow_other w g j _ (fun e => hj (by rw [e]))⟩, .inl rfl⟩
    · simp [Builtin.append_, run_underlying ht, run_underlying htn, sizeOf, typeInfo, zeroValue, hi, hz, asInt, asIntOf, hw, hneg, hns, h48i, hk, hroom, Addr.add_lit]
      rw [hst]
      rfl
    · rw [← hnew]
      simp only [List.size_toArray, List.length_append, List.length_take, List.length_drop, Array.length_toList] at *
      omega
    · rw [← hnew]
      simp only [List.toList_toArray, Nat.add_zero]
      rw [htake, ← hlen]
      exact List.take_left
  · have hfc := run_firstCells_some (P := P) w.drew i.size n ⟨g, 0, none⟩ n cap xs hown.1 (by simpa using hown.cells (g := g) rfl)
    have hge := grownCap_ge w (n + k) cap e
    have hcm' : grownCap w (n + k) cap e ≤ maxLen := grownCap_le_maxLen w (n + k) cap e h63
    have hr := Lib.run_append_grow_zeros (P := P) w t tn ty e i z kq kn ht htn hi hz (some ⟨g, 0, none⟩) n cap xs hfc k h0 hsz (by omega) (by unfold maxLen at h63; omega) h48 (growslice_fits (by omega) hbytes)
    refine ⟨_, _, hr, ⟨hlen, .inr ⟨w.heap.size, _, _, rfl, Nat.zero_le _, heap_alloc_new w.drew _, hge, hcm', ?_, ?_⟩⟩, ⟨rfl, rfl, rfl, by simp, fun j hj _ => heap_alloc_old w.drew _ j hj⟩, .inr rfl⟩
    · simp only [Array.size_append, List.size_toArray, size_zeroCells, hzs, hown.1, ← Nat.add_mul]
      congr 1
      omega
    · simp only [Array.toList_append, List.append_assoc]
      rw [← List.append_assoc, ← hlen]
      exact List.take_left
theorem zeroCells_one (u : Value) (k : Nat) : (Builtin.zeroCells #[u] k).toList = List.replicate k u := by
  apply List.ext_getElem?
  intro j
  by_cases hj : j < k
  · have h1 : j % 1 = 0 := Nat.mod_one j
    simp [Builtin.zeroCells, hj, h1, Array.getElem?_range]
  · simp [Builtin.zeroCells, hj]
variable {M : List Nat} {W : World} {L : List Res}
theorem xv_appz (kx : Nat) {F : Fr} {d : Option Nat} {t tn e ty : TypeId} {pos : String} {af : Array Edge} {gd : Option (Nat × Bool)} {s x : Operand} {K : Bool → Value → List Res → Prop} {bytes g n c k : Nat} {kq kn : IntKind} {u : Value} {xs : List Value}
    (ht : tap P t = some (e, 1, bytes)) (htn : P.underlying tn = some (.int kn)) (hu : tzero P e = some [u]) (hu1 : u.oneCell' = true) (hs : ev F s = .slice (some ⟨g, 0, none⟩) n c) (hx : ev F x = .int kq (k : Int)) (h0 : 0 < k)
    (hrow : nth L kx = some (.row (.slice (some ⟨g, 0, none⟩) n c) e 1 n xs)) (h63 : n + k ≤ 9223372036854775807) (h48 : k * bytes ≤ 281474976710656) (hbytes : (n + k) * bytes ≤ 140737488355328)
    (hK : ∀ A' c', (xs ++ List.replicate k u).length = (n + k) * 1 → rowAt A' (n + k) W M (L.eraseIdx kx) → K true (.slice A' (n + k) c') (.row (.slice A' (n + k) c') e 1 (n + k) (xs ++ List.replicate k u) :: L.eraseIdx kx)) :
    XV P M W ⟨d, .call { callee := .builtin .append, args := #[s, x], argTypes := #[t, tn] }, ty, pos, af, gd⟩ F L K := by
  intro w hw
  obtain ⟨hut, i, z, hi, hz, hsz, hby, hzs, hsz0⟩ := tap_run ht
  have hzc : z.cells = #[u] := by
    unfold tzero at hu
    rw [hi] at hu
    simp only [hz] at hu
    have : z.cells.toList = [u] := by simpa using hu
    rw [← this]
  have hst : St M W (.row (.slice (some ⟨g, 0, none⟩) n c) e 1 n xs :: L.eraseIdx kx) w := hw.perm (perm_erase hrow).symm
  have hown : w.ownsRow 0 e 1 (.slice (some ⟨g, 0, none⟩) n c) n xs := hst.holds (.row (.slice (some ⟨g, 0, none⟩) n c) e 1 n xs) (by simp)
  rw [← hsz] at hown
  have hzl : (Builtin.zeroCells z.cells k).toList = List.replicate k u := by rw [hzc, zeroCells_one]
  obtain ⟨v', w', hrun, hown', hg, hblk⟩ := run_append_zeros (P := P) w t tn ty e i z kq kn hut htn hi hz (by rw [hzs, hsz]) (by omega) g n c xs hown k h0 (by rw [hzl]; intro y hy; rw [List.eq_of_mem_replicate hy]; exact hu1) (by unfold maxLen; omega) (by rw [hby]; exact h48) (by rw [hby]; exact hbytes)
  rw [hsz, hzl] at hown'
  obtain ⟨A', c', rfl⟩ := slice_of_row hown'
  suffices hfin : St M W (.row (.slice A' (n + k) c') e 1 (n + k) (xs ++ List.replicate k u) :: L.eraseIdx kx) w' by
    refine ⟨_, _, w', ?_, hfin, hK A' c' hown'.1 hfin.row_at⟩
    simp only [execOp, resolve, Sem.run_bind, Sem.run_pure, Result.andThen_ok, invoke, builtin, List.map_toArray, List.map_cons, List.map_nil, hs, hx, hrun]
  have hfo := hst.own (.row (.slice (some ⟨g, 0, none⟩) n c) e 1 n xs) (by simp)
  have hfa := (List.pairwise_cons.1 hst.apart).1
  have hkeep : ∀ r ∈ L.eraseIdx kx, ∀ b ∈ r.foot, w'.heap[b]? = w.heap[b]? := fun r hr b hb => hg.block b (hst.own r (by simp [hr]) b hb).2 (by
    intro he
    injection he with he
    exact hfa r hr b (by simp [Res.foot, Value.ownBlock, he]) hb)
  have hpres : Pres M W w' := ⟨hg.os.trans hw.pres.os, hg.tape.trans hw.pres.tape, hg.output.trans hw.pres.output, Nat.le_trans hw.pres.size hg.size, fun j hj hm => by
    rw [hg.block j (Nat.lt_of_lt_of_le hj hw.pres.size) (by
      intro he
      injection he with he
      rcases (hfo j (by simp [Res.foot, Value.ownBlock, he])).1 with h | h
      · omega
      · exact hm h)]
    exact hw.pres.block j hj hm⟩
  have hL' : St M W (L.eraseIdx kx) w' := ⟨hpres, fun r hr => r.keep (hst.holds r (by simp [hr])) (hkeep r hr), fun r hr b hb => ⟨(hst.own r (by simp [hr]) b hb).1, Nat.lt_of_lt_of_le (hst.own r (by simp [hr]) b hb).2 hg.size⟩, (List.pairwise_cons.1 hst.apart).2⟩
  refine hL'.add _ hown' ?_ ?_
  · intro b hb
    have hb' : (Value.slice A' (n + k) c').ownBlock = some b := by simpa [Res.foot] using hb
    have hlt := (hown'.lt b hb').2
    refine ⟨?_, hlt⟩
    rcases hblk with h | h
    · rw [hb'] at h
      injection h with h
      exact (hfo b (by simp [Res.foot, Value.ownBlock, h])).1
    · rw [hb'] at h
      injection h with h
      subst h
      exact .inl hw.pres.size
  · intro s hs b hb hbs
    have hb' : (Value.slice A' (n + k) c').ownBlock = some b := by simpa [Res.foot] using hb
    rcases hblk with h | h
    · rw [hb'] at h
      injection h with h
      exact hfa s hs b (by simp [Res.foot, Value.ownBlock, h]) hbs
    · rw [hb'] at h
      injection h with h
      subst h
      exact absurd (hst.own s (by simp [hs]) _ hbs).2 (Nat.lt_irrefl _)
end
end Go.Proofs.Ytehfnjaompkikaa
