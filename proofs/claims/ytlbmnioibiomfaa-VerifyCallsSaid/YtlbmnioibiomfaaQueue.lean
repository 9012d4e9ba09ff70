/- A queue: a slice into a block of the call's own, read at its head and appended to. -/
import Derived.Test.YtlbmnioibiomfaaFlEng
import Derived.Test.YtlbmnioibiomfaaEng11
import Derived.Test.YtlbmnioibiomfaaSl
namespace Go.Proofs.Ytlbmnioibiomfaa
open Go.RowKit Go.Shelf
set_option linter.unusedVariables false
set_option linter.unusedSimpArgs false
structure Qd (cs : List Value) (off n c : Nat) (l : List Nat) : Prop where
  fit : off + c ≤ cs.length
  nc : n ≤ c
  len : n = l.length
  win : (cs.drop off).take n = i64c l
theorem Qd.head {cs : List Value} {off n c x : Nat} {l : List Nat} (h : Qd cs off n c (x :: l)) : cs[off]? = some (.int .i64 (x : Int)) := by
  have h1 := h.win
  have h2 := h.len
  have h3 : ((cs.drop off).take n)[0]? = some (.int .i64 (x : Int)) := by rw [h1]; rfl
  rw [List.getElem?_take, if_pos (by simp at h2; omega), List.getElem?_drop] at h3
  simpa using h3
theorem Qd.tail {cs : List Value} {b off n c x : Nat} {l : List Nat} (h : Qd cs off n c (x :: l)) : ∃ off', sbase c 1 1 (some ⟨b, off, none⟩) = some ⟨b, off', none⟩ ∧ Qd cs off' (n - 1) (c - 1) l := by
  have h2 := h.len
  have h3 := h.nc
  have h4 := h.fit
  have h5 := h.win
  simp only [List.length_cons] at h2
  subst h2
  by_cases hc : c = 1
  · obtain rfl : l = [] := List.eq_nil_of_length_eq_zero (by omega)
    subst hc
    exact ⟨off, by simp [sbase], by omega, by simp, by simp, by simp [i64c]⟩
  · refine ⟨off + 1, by rw [sbase_some hc, Addr.add_lit], by omega, by omega, by omega, ?_⟩
    have := congrArg (List.drop 1) h5
    rw [List.drop_take, List.drop_drop] at this
    exact this
theorem Qd.one (x : Nat) : Qd [.int .i64 (x : Int)] 0 1 1 [x] := ⟨by simp, by omega, rfl, rfl⟩
theorem appV_qd {P : Program} {M : List Nat} {W : World} {L : List Res} {K : Bool → Value → List Res → Prop} (k : Nat) {ty t e : TypeId} {bytes b off n c cA : Nat} {A : Option Addr} {cs : List Value} {l : List Nat} {x : Nat} (ht : tap P t = some (e, 1, bytes)) (hrow : nth L k = some (.blk b e cs)) (hq : Qd cs off n c l)
    (hsrc : ∀ w, St M W L w → Reads w w.heap.size 1 A 1 [.int .i64 (x : Int)]) (h63 : n + 1 ≤ 9223372036854775807) (hbytes : (n + 1) * bytes ≤ 140737488355328)
    (hk : ∀ b' off' c' cs', Qd cs' off' (n + 1) c' (l ++ [x]) → K true (.slice (some ⟨b', off', none⟩) (n + 1) c') (.blk b' e cs' :: L.eraseIdx k)) : appV P M W ty t L (.slice (some ⟨b, off, none⟩) n c) (.slice A 1 cA) K := by
  intro w hw
  obtain ⟨hu, i, z, hi, hz, hs, hby, hzs, hsz⟩ := tap_run ht
  have hr := hsrc w hw
  obtain ⟨ad, rfl, hB, hcr⟩ := hr.2 (by omega)
  have hp := hw.perm (perm_erase hrow).symm
  have hcell : ∀ j, w.cell? ⟨b, j, none⟩ = cs[j]? := fun j => hp.blk_cell (.head _) j
  have hwin : ∀ j, j < n → cs[off + j]? = (i64c l)[j]? := fun j hj => by
    have := congrArg (·[j]?) hq.win
    rwa [List.getElem?_take, if_pos hj, List.getElem?_drop] at this
  have hln : (i64c l).length = n := by simp [i64c, hq.len]
  have hsn : i64c (l ++ [x]) = i64c l ++ [.int .i64 (x : Int)] := by simp [i64c]
  by_cases hroom : n < c
  · have hlt : off + n < cs.length := by have := hq.fit; omega
    have hrun := run_append_room_cells (P := P) w t ty e i hu hi b off n c ad 1 cA [.int .i64 (x : Int)] (by rw [hs]; rfl) hcr (by simp [Value.oneCell']) (by omega) (fun j hj => by
      obtain rfl : j = 0 := by simpa using hj
      rw [hs, Nat.mul_one, Nat.add_zero, hcell]
      simp [hlt]) (fun j hj => hp.blk_frozen (.head _) _)
    rw [hs, Nat.mul_one] at hrun
    have hst : St M W (.blk b e (cs.set (off + n) (.int .i64 (x : Int))) :: L.eraseIdx k) (w.setCell ⟨b, off + n, none⟩ (.int .i64 (x : Int))) :=
      St.write (A := []) hp (fun k hk => Below.heap_setCell w _ _ k hk) (by
        have hb := hp.holds _ (.head _)
        simp only [Res.holds] at hb
        simp [World.setCell, Array.getElem?_modify, hb]) (by simp [World.setCell]) rfl rfl rfl
    refine ⟨_, _, _, hrun, hst, hk b off c _ ⟨by rw [List.length_set]; exact hq.fit, by omega, by simp [hq.len], ?_⟩⟩
    apply List.ext_getElem?
    intro j
    rw [List.getElem?_take, List.getElem?_drop, hsn, List.getElem?_set]
    rcases Nat.lt_trichotomy j n with h1 | h1 | h1
    · rw [if_pos (by omega), if_neg (by omega), hwin j h1, List.getElem?_append_left (by omega)]
    · subst h1
      rw [if_pos (by omega), if_pos rfl, if_pos hlt, List.getElem?_append_right (by omega), hln, Nat.sub_self]
      rfl
    · rw [if_neg (by omega), List.getElem?_eq_none (by simp only [List.length_append, hln, List.length_singleton]; omega)]
  · obtain ⟨v', w', hrun, hown, hg⟩ := run_append_arg_grows (P := P) w t ty e i z 1 bytes hu hi hz hs hby hzs hsz ⟨b, off, none⟩ n c (i64c l) (by omega) (fun j u hj => by
      rw [Addr.add_lit, hcell, hwin j (by have := (List.getElem?_eq_some_iff.1 hj).1; omega)]
      exact hj) ad 1 cA [.int .i64 (x : Int)] hr.1 hcr (by omega) (by unfold maxLen; omega) hbytes
    have hlt := fun b hb => hown.lt b hb
    rcases hown.2 with ⟨-, h0⟩ | ⟨g, cap, cur, rfl, hg1, hg2, hnc, hcm, hsz, htk⟩
    · omega
    have hBl : Below w.heap.size w w' := ⟨hg.os, hg.tape, hg.output, hg.size, fun k hk => hg.block k hk (by simp)⟩
    have hst : St M W (.blk g e cur.toList :: L.eraseIdx k) w' := (hp.tail.quiet hBl).add _ (by simpa [Res.holds] using hg2) (fun b' hb' => by
      obtain rfl : b' = g := by simpa [Res.foot] using hb'
      have h2 := hw.pres.size
      exact ⟨.inl (by omega), (hlt _ (by simp [Value.ownBlock])).2⟩) (fun s hs b' hb' hbs => by
      obtain rfl : b' = g := by simpa [Res.foot] using hb'
      have := (hp.tail.own s hs _ hbs).2
      omega)
    refine ⟨_, _, w', hrun, hst, hk g 0 cap cur.toList ⟨by simp; omega, hnc, by simp [hq.len], ?_⟩⟩
    rw [List.drop_zero, hsn]
    rw [Nat.mul_one] at htk
    exact htk
end Go.Proofs.Ytlbmnioibiomfaa
