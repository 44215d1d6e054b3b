/- Walks over package sha: right. -/
import Derived.Test.YtkdcelnlhhodlaaRows
import Derived.Test.YtkdcelnlhhodlaaWord
namespace Go.Proofs.Ytkdcelnlhhodlaa
open Go.RowKit Go.Deep

attribute [local go_sem] wd_or wd_xor wd_and wd_add wd_add' wd_shl wd_shl' wd_shr wd_shl8 wd_shr3 wd_shr10

theorem ret_u32 {x y : BitVec 32} (h : x = y) : Ending.returned (.int .u32 (wd x)) = .returned (.int .u32 (wd y)) := by rw [h]
theorem rot_eq (x : BitVec 32) (n : Nat) (h0 : 0 < n) (h1 : n < 32) : x <<< (32 - n) ||| x >>> (32 - (32 - n)) = x.rotateRight n := by
  rw [BitVec.rotateRight_def, Nat.mod_eq_of_lt h1, show 32 - (32 - n) = n from by omega, BitVec.or_comm]
theorem and31 : ∀ n : Fin 31, bits .and .u64 (IntKind.u64.wrap (-((n.val + 1 : Nat) : Int))) 31 = ((31 - n.val : Nat) : Int) := by decide +kernel

set_option maxHeartbeats 400000 in
theorem right_any (x : BitVec 32) (n : Int) (h0 : 0 < n) (h1 : n < 32) (w : World) :
    Calls Try.prog 38 #[.int .u32 (wd x), .int .i64 n] w fun e w' => e = .returned (.int .u32 (wd (x.rotateRight n.toNat))) ∧ w = w' := by
  obtain ⟨n, rfl⟩ := Int.eq_ofNat_of_zero_le (Int.le_of_lt h0)
  rw [Int.toNat_natCast]
  obtain ⟨m, hmn⟩ : ∃ m, m = 32 - n := ⟨_, rfl⟩
  have hm : 0 < m := by omega
  have hm2 : m < 32 := by omega
  have hb : bits .and .u64 (IntKind.u64.wrap (-(n : Int))) 31 = (m : Int) := by
    have h := and31 ⟨n - 1, by omega⟩
    simp only [show n - 1 + 1 = n from by omega, show 31 - (n - 1) = m from by omega] at h
    exact h
  have hr : x <<< m ||| x >>> (32 - m) = x.rotateRight n := by rw [hmn]; exact rot_eq x n (by omega) (by omega)
  have Hr := Lib.hid hr
  clear hr hmn
  go_enter Try.func38, Try.ntmps38
  go_wp2
  go_ret
  exact ⟨ret_u32 Hr.out, rfl⟩

end Go.Proofs.Ytkdcelnlhhodlaa
