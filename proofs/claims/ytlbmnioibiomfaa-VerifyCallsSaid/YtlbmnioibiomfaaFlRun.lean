/- Stack heights: what a run that ends well has shown. Plain. -/
import Derived.Test.YtlbmnioibiomfaaFlPlain
namespace Go.Proofs.Ytlbmnioibiomfaa
set_option linter.unusedVariables false
set_option linter.unusedSimpArgs false
theorem updF_spec : ∀ {l : List Nat} {v : Int} {h h' : List Int}, updF l v h = some h' → v ≠ -1 → (∀ j ∈ l, j < h.length) →
    h'.length = h.length ∧ (∀ j, hAt h j ≠ -1 → hAt h' j = hAt h j) ∧ (∀ j ∈ l, hAt h' j = v) ∧ ∀ j, hAt h' j = hAt h j ∨ (j ∈ l ∧ hAt h' j = v)
  | [], v, h, h', e, _, _ => by
    simp only [updF, Option.some.injEq] at e
    subst e
    exact ⟨rfl, fun _ _ => rfl, by simp, fun _ => .inl rfl⟩
  | k :: l, v, h, h', e, hv, hl => by
    simp only [updF] at e
    split at e
    · cases e
    · rename_i hc
      have hk : k < h.length := hl k (by simp)
      obtain ⟨e1, e2, e3, e4⟩ := updF_spec e hv (fun j hj => by simpa using hl j (by simp [hj]))
      have hs : ∀ j, hAt (h.set k v) j = if k = j then v else hAt h j := fun j => hAt_set hk
      have hkk : hAt h' k = v := by rw [e2 k (by rw [hs, if_pos rfl]; exact hv), hs, if_pos rfl]
      refine ⟨by simpa using e1, fun j hj => ?_, fun j hj => ?_, fun j => ?_⟩
      · by_cases hkj : k = j
        · subst hkj
          rw [hkk]
          by_cases hq : hAt h k = v
          · exact hq.symm
          · exact absurd ⟨hj, hq⟩ hc
        · rw [e2 j (by rw [hs, if_neg hkj]; exact hj), hs, if_neg hkj]
      · rcases List.mem_cons.1 hj with rfl | hj
        · exact hkk
        · exact e3 j hj
      · by_cases hkj : k = j
        · subst hkj
          exact .inr ⟨by simp, hkk⟩
        · rcases e4 j with h1 | ⟨h1, h2⟩
          · rw [h1, hs, if_neg hkj]
            exact .inl rfl
          · exact .inr ⟨by simp [h1], h2⟩
/-- An instruction's step holds. -/
structure GoodF (gs : List FnR) (x : FnR) (h : List Int) (k : Nat) : Prop where
  known : hAt h k ≠ -1
  ret : (insAt x k).op = 22 → hAt h k = x.r
  pops : (fxP gs (insAt x k)).1 ≤ hAt h k
  most : hAt h k + (fxP gs (insAt x k)).2 - (fxP gs (insAt x k)).1 ≤ 64
  next : ∀ j ∈ nxP (insAt x k) k, hAt h j = hAt h k + (fxP gs (insAt x k)).2 - (fxP gs (insAt x k)).1
structure RunOk (gs : List FnR) (x : FnR) (h : List Int) (d : List Bool) : Prop where
  hlen : h.length = x.code.length
  dlen : d.length = x.code.length
  rng : ∀ k, hAt h k = -1 ∨ (0 ≤ hAt h k ∧ hAt h k ≤ 64)
  done : ∀ k, d[k]? = some true → GoodF gs x h k
theorem stepF_some {gs : List FnR} {x : FnR} {h h' : List Int} {k : Nat} {i : Ins} (e : stepF gs x h k i = some h') :
    (i.op = 22 → hAt h k = x.r) ∧ (fxP gs i).1 ≤ hAt h k ∧ hAt h k + (fxP gs i).2 - (fxP gs i).1 ≤ 64 ∧ updF (nxP i k) (hAt h k + (fxP gs i).2 - (fxP gs i).1) h = some h' := by
  unfold stepF at e
  split at e
  · cases e
  · rename_i hc
    refine ⟨fun ho => ?_, ?_, ?_, e⟩
    · exact Decidable.byContradiction fun hq => hc (.inl ⟨ho, hq⟩)
    · exact Int.not_lt.1 fun hq => hc (.inr (.inl hq))
    · exact Int.not_lt.1 fun hq => hc (.inr (.inr hq))
theorem run_step {gs : List FnR} {x : FnR} {h h' : List Int} {d : List Bool} {k : Nat} (hr : RunOk gs x h d) (hfx : ∀ k, k < x.code.length → 0 ≤ (fxP gs (insAt x k)).2) (hnx : ∀ k, k < x.code.length → ∀ j ∈ nxP (insAt x k) k, j < x.code.length)
    (hk : leastB h d = some k) (e : stepF gs x h k (insAt x k) = some h') :
    RunOk gs x h' (d.set k true) ∧ (∀ j, hAt h j ≠ -1 → hAt h' j = hAt h j) ∧ (∀ j, hAt h' j = hAt h j ∨ j ∈ nxP (insAt x k) k) ∧ hAt h k ≠ -1 ∧ undone d = undone (d.set k true) + 1 ∧ k < x.code.length := by
  obtain ⟨hlt, hop, -⟩ := leastB_inv hk
  unfold openB at hop
  simp only [Bool.and_eq_true, decide_eq_true_eq, Bool.not_eq_true'] at hop
  obtain ⟨hkn, hkd⟩ := hop
  have hkl : k < x.code.length := by have := hr.hlen; omega
  have hkd' : d[k]? = some false := by
    have hkd2 : k < d.length := by have := hr.dlen; omega
    rw [List.getElem?_eq_getElem hkd2] at hkd ⊢
    simpa using hkd
  obtain ⟨s1, s2, s3, s4⟩ := stepF_some e
  have h0 : 0 ≤ hAt h k := by rcases hr.rng k with q | q; exact absurd q hkn; exact q.1
  have hp := hfx k hkl
  have hv : hAt h k + (fxP gs (insAt x k)).2 - (fxP gs (insAt x k)).1 ≠ -1 := by omega
  obtain ⟨u1, u2, u3, u4⟩ := updF_spec s4 hv (fun j hj => by have := hnx k hkl j hj; have := hr.hlen; omega)
  refine ⟨⟨by rw [u1]; exact hr.hlen, by simpa using hr.dlen, fun j => ?_, fun j hj => ?_⟩, u2, fun j => (u4 j).imp id And.left, hkn, undone_set hkd', hkl⟩
  · rcases u4 j with q | ⟨-, q⟩
    · rw [q]; exact hr.rng j
    · rw [q]; right; omega
  · by_cases hjk : k = j
    · subst hjk
      have := u2 k hkn
      exact ⟨by rw [this]; exact hkn, by rw [this]; exact s1, by rw [this]; exact s2, by rw [this]; exact s3, by rw [this]; exact u3⟩
    · rw [List.getElem?_set_ne hjk] at hj
      have hg := hr.done j hj
      have := u2 j hg.known
      exact ⟨by rw [this]; exact hg.known, by rw [this]; exact hg.ret, by rw [this]; exact hg.pops, by rw [this]; exact hg.most, fun i hi => by
        rw [this, ← hg.next i hi]
        refine u2 i ?_
        rw [hg.next i hi]
        have hjl : j < x.code.length := by have := (List.getElem?_eq_some_iff.1 hj).1; have := hr.dlen; omega
        have := hfx j hjl
        have := hg.pops
        omega⟩
theorem runF_ok {gs : List FnR} {x : FnR} (hfx : ∀ k, k < x.code.length → 0 ≤ (fxP gs (insAt x k)).2) (hnx : ∀ k, k < x.code.length → ∀ j ∈ nxP (insAt x k) k, j < x.code.length) :
    ∀ {q : Nat} {h : List Int} {d : List Bool} {hf : List Int}, undone d ≤ q → RunOk gs x h d → runF gs x q h d = .inl hf →
      (∃ d', RunOk gs x hf d' ∧ leastB hf d' = none) ∧ (∀ j, hAt h j ≠ -1 → hAt hf j = hAt h j) ∧
      ∀ S : Nat → Prop, (∀ j, hAt h j ≠ -1 → S j) → (∀ k, k < x.code.length → S k → ∀ j ∈ nxP (insAt x k) k, S j) → ∀ j, hAt hf j ≠ -1 → S j
  | 0, h, d, hf, hu, hr, e => by
    simp only [runF, Sum.inl.injEq] at e
    subst e
    exact ⟨⟨d, hr, undone_zero (by omega) h (by rw [hr.hlen, hr.dlen])⟩, fun _ _ => rfl, fun S hS _ j hj => hS j hj⟩
  | q + 1, h, d, hf, hu, hr, e => by
    simp only [runF] at e
    split at e
    · rename_i hl
      simp only [Sum.inl.injEq] at e
      subst e
      exact ⟨⟨d, hr, hl⟩, fun _ _ => rfl, fun S hS _ j hj => hS j hj⟩
    · rename_i k hl
      split at e
      · cases e
      · rename_i h' hs
        obtain ⟨r1, r2, r3, r4, r5, r6⟩ := run_step hr hfx hnx hl hs
        obtain ⟨a1, a2, a3⟩ := runF_ok hfx hnx (by omega) r1 e
        refine ⟨a1, fun j hj => by rw [a2 j (by rw [r2 j hj]; exact hj), r2 j hj], fun S hS hn j hj => a3 S (fun j hj => ?_) hn j hj⟩
        rcases r3 j with q | q
        · exact hS j (by rw [← q]; exact hj)
        · exact hn k r6 (hS k r4) j q
theorem h0F_at {n j : Nat} (hn : 0 < n) : hAt (h0F n) j = if j = 0 then 0 else -1 := by
  unfold h0F
  rw [hAt_set (by simpa using hn)]
  by_cases hj : j = 0
  · subst hj; rfl
  · rw [if_neg (fun e => hj e.symm), if_neg hj]
    unfold hAt
    rw [List.getElem?_replicate]
    split <;> rfl
theorem run_zero {gs : List FnR} {x : FnR} (hn : 0 < x.code.length) : RunOk gs x (h0F x.code.length) (List.replicate x.code.length false) :=
  ⟨by simp [h0F], by simp, fun k => by
    rw [h0F_at hn]
    split
    · right; omega
    · left; rfl, fun k hk => by
    rw [List.getElem?_replicate] at hk
    split at hk <;> cases hk⟩
theorem undone_new (n : Nat) : undone (List.replicate n false) = n := by
  unfold undone
  rw [List.filter_eq_self.2 (fun a ha => by rw [List.eq_of_mem_replicate ha]; rfl), List.length_replicate]
theorem nx_in {gl : Nat} {x : FnR} (h : ∀ (j : Nat) (i : Ins), x.code[j]? = some i → stE gl x j i = 0) : ∀ k, k < x.code.length → ∀ j ∈ nxP (insAt x k) k, j < x.code.length := by
  intro k hk j hj
  have hi : x.code[k]? = some (insAt x k) := by unfold insAt; rw [List.getElem?_eq_getElem hk]; rfl
  have hs := h k _ hi
  unfold stE at hs
  generalize insAt x k = i at *
  split at hs
  · cases hs
  rename_i c1
  split at hs
  · cases hs
  split at hs
  · cases hs
  split at hs
  · cases hs
  split at hs
  · cases hs
  rename_i c5
  unfold nxP at hj
  unfold endsP at c5
  split at hj
  · simp only [List.mem_singleton] at hj; omega
  split at hj
  · split at hj
    · simp only [List.mem_cons, List.not_mem_nil, or_false] at hj; omega
    split at hj
    · simp only [List.mem_cons, List.not_mem_nil, or_false] at hj; omega
    · simp only [List.mem_singleton] at hj; omega
  split at hj
  · cases hj
  · simp only [List.mem_singleton] at hj; omega
theorem fx_nn {gs : List FnR} (h : ∀ g ∈ gs, 0 ≤ g.r) (i : Ins) : 0 ≤ (fxP gs i).2 := by
  unfold fxP
  split
  · dsimp only
    cases hg : gs[i.arg]? with
    | none => simp
    | some g => simpa using h g (List.mem_of_getElem? hg)
  split
  · dsimp only; omega
  · dsimp only; omega
/-- A function whose heights are known has them all as they should be. -/
theorem hgt_spec {m : ModR} {k : Nat} {x : FnR} {hf : List Int} (hs : (stF m (k : Int)).1 = 0) (hx : m.gs[k]? = some x) (e : hgtR m.gs x = .inl hf) :
    hf.length = x.code.length ∧ 0 < x.code.length ∧ hAt hf 0 = 0 ∧ (∀ j, hAt hf j = -1 ∨ (0 ≤ hAt hf j ∧ hAt hf j ≤ 64)) ∧ (∀ j, hAt hf j ≠ -1 → j < x.code.length ∧ GoodF m.gs x hf j) ∧
    (∀ k, k < x.code.length → ∀ j ∈ nxP (insAt x k) k, j < x.code.length) ∧
    ∀ S : Nat → Prop, S 0 → (∀ k, k < x.code.length → S k → ∀ j ∈ nxP (insAt x k) k, S j) → ∀ j, hAt hf j ≠ -1 → S j := by
  obtain ⟨hc, k', x', hk', hx', hst⟩ := stF_ok hs
  have hkk : k = k' := by omega
  subst hkk
  rw [hx] at hx'
  cases hx'
  obtain ⟨-, -, -, -, hck⟩ := chkM_ok hc
  have hn : 0 < x.code.length := by
    obtain ⟨-, -, -, -, -, -, h1, -⟩ := fnErr_ok (hck k x hx).1
    omega
  have hfx : ∀ k, k < x.code.length → 0 ≤ (fxP m.gs (insAt x k)).2 := fun j _ => fx_nn (fun g hg => by
    obtain ⟨i, hi⟩ := List.getElem?_of_mem hg
    exact (fnErr_ok (hck i g hi).1).2.1) _
  have hnx := nx_in hst
  obtain ⟨⟨d', hr, hl⟩, h2, h3⟩ := runF_ok hfx hnx (Nat.le_of_eq (undone_new _)) (run_zero hn) e
  have h00 : hAt (h0F x.code.length) 0 ≠ -1 := by rw [h0F_at hn]; decide
  refine ⟨hr.hlen, hn, by rw [h2 0 h00, h0F_at hn]; rfl, hr.rng, fun j hj => ?_, hnx, fun S hS hc j hj => h3 S (fun j hj => ?_) hc j hj⟩
  · have hjl : j < hf.length := by
      refine Nat.lt_of_not_le fun hge => hj ?_
      unfold hAt
      rw [List.getElem?_eq_none hge]
      rfl
    have hop := leastB_ninv hl j hjl
    have hjd : j < d'.length := by rw [hr.dlen, ← hr.hlen]; exact hjl
    refine ⟨by rw [← hr.hlen]; exact hjl, hr.done j ?_⟩
    unfold openB at hop
    rw [List.getElem?_eq_getElem hjd] at hop ⊢
    simpa [hj] using hop
  · rw [h0F_at hn] at hj
    split at hj
    · rename_i e; subst e; exact hS
    · exact absurd rfl hj
theorem stF_op {i : Ins} (h : i.err = 0) : 1 ≤ i.op ∧ i.op ≤ 25 := (Ins.err_zero h).1
theorem hgtF_err {m : ModR} {f : Int} (h : ¬ (hgtF m f).2.1 = 0) : (hgtF m f).1 = [] := by
  unfold hgtF at h ⊢
  split at h
  · rename_i h0
    rw [if_pos h0]
    split at h
    · exact absurd rfl h
    · unfold hgtV at h ⊢
      split at h
      · exact absurd rfl h
      · rfl
  · rename_i h0
    rw [if_neg h0]
theorem hgtF_fine {m : ModR} (h : (hgtF m 0).2.1 = 0) : ∃ x hf, m.gs[0]? = some x ∧ (stF m ((0 : Nat) : Int)).1 = 0 ∧ hgtR m.gs x = .inl hf ∧ hgtF m 0 = (hf, fineF) := by
  by_cases h0 : (stF m ((0 : Nat) : Int)).1 = 0
  · obtain ⟨-, k, x, hk, hx, -⟩ := stF_ok h0
    obtain rfl : k = 0 := by omega
    have hy := hgtF_yes h0 hx
    cases hr : hgtR m.gs x with
    | inl hf =>
      rw [hr] at hy
      exact ⟨x, hf, hx, h0, hr, hy⟩
    | inr j =>
      rw [hr] at hy
      have : (hgtF m ((0 : Nat) : Int)).2.1 = 0 := h
      rw [hy] at this
      exact absurd (show (24 : Int) = 0 from this) (by decide)
  · have := hgtF_no h0
    have h1 : (hgtF m ((0 : Nat) : Int)).2.1 = 0 := h
    rw [this] at h1
    exact absurd h1 h0
end Go.Proofs.Ytlbmnioibiomfaa
