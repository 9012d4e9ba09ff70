/- Encodings of types: plain. -/
import Derived.Test.YtfaanphjaghbpaaMake
namespace Go.Proofs.Ytfaanphjaghbpaa
open Go.RowKit Go.Shelf
set_option linter.unusedVariables false
set_option linter.unusedSimpArgs false
def encFd (f : Fd) : List Nat := putU f.kind.toNat ++ putU f.count.toNat
def encB (len : Int) (fs : List Fd) : List Nat := putU len.toNat ++ putU fs.length ++ fs.flatMap encFd
def encT (len : Int) (fs : List Fd) : List Nat := if chk len fs = 0 then encB len fs else []
theorem putU_le3 {n : Nat} (h : n ≤ 65536) : (putU n).length ≤ 3 := putU_len 2 n (by rw [show (128 : Nat) ^ (2 + 1) = 2097152 by decide]; omega)
theorem encFd_len {f : Fd} (h : f.err = 0) : (encFd f).length ≤ 6 := by
  have := Fd.err_zero h
  have h1 := putU_le3 (n := f.kind.toNat) (by omega)
  have h2 := putU_le3 (n := f.count.toNat) (by omega)
  unfold encFd
  rw [List.length_append]
  omega
theorem flat_len : ∀ {fs : List Fd}, okFs fs → (fs.flatMap encFd).length ≤ 6 * fs.length
  | [], _ => by simp
  | f :: r, h => by
    have h1 := encFd_len (h f (by simp))
    have h2 := flat_len (fs := r) fun x hx => h x (by simp [hx])
    rw [List.flatMap_cons, List.length_append, List.length_cons]
    omega
theorem encB_len {len : Int} {fs : List Fd} (h : chk len fs = 0) : (encB len fs).length ≤ 198 ∧ 2 ≤ (encB len fs).length := by
  obtain ⟨h1, h2, h3, h4, h5, h6, h7⟩ := chk_zero h
  have q1 := putU_le3 (n := len.toNat) (by omega)
  have q2 := putU_le3 (n := fs.length) (by omega)
  have q3 := flat_len h6
  have q4 := putU_pos len.toNat
  have q5 := putU_pos fs.length
  unfold encB
  rw [List.length_append, List.length_append]
  omega
theorem encFd_byte (f : Fd) : ∀ x ∈ encFd f, x < 256 := fun x hx => by
  rcases List.mem_append.1 hx with h | h
  · exact putU_byte _ x h
  · exact putU_byte _ x h
theorem encB_byte (len : Int) (fs : List Fd) : ∀ x ∈ encB len fs, x < 256 := fun x hx => by
  unfold encB at hx
  rcases List.mem_append.1 hx with h | h
  · rcases List.mem_append.1 h with h | h
    · exact putU_byte _ x h
    · exact putU_byte _ x h
  · obtain ⟨f, _, hf⟩ := List.mem_flatMap.1 h
    exact encFd_byte f x hf
theorem flat_take {fs : List Fd} {k : Nat} {x : Fd} (h : fs[k]? = some x) : (fs.take (k + 1)).flatMap encFd = (fs.take k).flatMap encFd ++ putU x.kind.toNat ++ putU x.count.toNat := by
  obtain ⟨hk, hf⟩ := List.getElem?_eq_some_iff.1 h
  rw [List.take_succ_eq_append_getElem hk, hf, List.flatMap_append]
  simp [encFd]
theorem u64_toNat {x : Int} (h0 : 0 ≤ x) (h1 : x ≤ 9223372036854775807) : IntKind.u64.wrap x = (x.toNat : Int) := by rw [IntKind.wrap_u64]; omega
theorem nat_toNat (n : Nat) : ((n : Int)).toNat = n := by omega
def awB : List Nat := [0, 3, 1, 0, 3, 0, 2, 0]
theorem awake_chk : chk 0 [⟨1, 0⟩, ⟨3, 0⟩, ⟨2, 0⟩] = 0 := by decide
theorem awake_enc : encT 0 [⟨1, 0⟩, ⟨3, 0⟩, ⟨2, 0⟩] = awB := by
  unfold encT
  rw [if_pos awake_chk]
  simp [encB, encFd, putU_small, awB]
theorem awake_str : bstr awB = ⟨#[0, 3, 1, 0, 3, 0, 2, 0]⟩ := by rw [bstr_eq]; rfl
end Go.Proofs.Ytfaanphjaghbpaa
