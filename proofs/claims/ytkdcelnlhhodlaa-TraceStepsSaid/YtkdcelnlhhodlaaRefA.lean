/- Walks over the reference's small functions: turn, shift. -/
import Derived.Test.YtkdcelnlhhodlaaDump
import Derived.Test.YtkdcelnlhhodlaaWordM
namespace Go.Proofs.Ytkdcelnlhhodlaa
open Go.RowKit Go.Deep

set_option maxHeartbeats 400000 in
theorem turn_any (x : BitVec 32) (n : Int) (h0 : 0 ≤ n) (h1 : n < 32) (w : World) :
    Calls Try.prog 43 #[.int .u32 (wd x), .int .i64 n] w fun e w' => e = .returned (.int .u32 (wd (x.rotateRight n.toNat))) ∧ w' = w := by
  obtain ⟨n, rfl⟩ := Int.eq_ofNat_of_zero_le h0
  rw [Int.toNat_natCast]
  go_enter Try.func43, Try.ntmps43
  go_wp2
  go_loopw [0, 5] (fun y i wr => ∃ k : Nat, y = .int .u32 (wd (x.rotateRight k)) ∧ i = .int .i64 (k : Int) ∧ k ≤ n ∧ wr = w) (fun y i _ => (n - intOf i).toNat)
  case atStart => exact ⟨0, by rw [rot_zero], rfl, by omega, rfl⟩
  case round =>
    obtain ⟨k, rfl, rfl, hk, rfl⟩ := hrel
    have hy0 := wd_nonneg (x.rotateRight k)
    have hy1 := wd_lt (x.rotateRight k)
    have he := wd_rot1 (x.rotateRight k)
    by_cases hkn : k < n
    · rw [rot_step _ _ (by omega)] at he
      go_wp2
      exact ⟨⟨k + 1, rfl, by go_num, by omega, trivial⟩, by simp [intOf]; omega⟩
    · obtain rfl : k = n := by omega
      go_wp2
      go_ret
      exact ⟨rfl, rfl⟩

theorem shr_step (x : BitVec 32) (k : Nat) : wd (x >>> k) / 2 = wd (x >>> (k + 1)) := by
  rw [← wd_shr, ← wd_shr, Int.ediv_ediv_of_nonneg (Int.pow_nonneg (by omega)), ← Int.pow_succ]

set_option maxHeartbeats 400000 in
theorem shift_any (x : BitVec 32) (n : Int) (h0 : 0 ≤ n) (h1 : n < 32) (w : World) :
    Calls Try.prog 48 #[.int .u32 (wd x), .int .i64 n] w fun e w' => e = .returned (.int .u32 (wd (x >>> n.toNat))) ∧ w' = w := by
  obtain ⟨n, rfl⟩ := Int.eq_ofNat_of_zero_le h0
  rw [Int.toNat_natCast]
  go_enter Try.func48, Try.ntmps48
  go_wp2
  go_loopw [0, 5] (fun y i wr => ∃ k : Nat, y = .int .u32 (wd (x >>> k)) ∧ i = .int .i64 (k : Int) ∧ k ≤ n ∧ wr = w) (fun y i _ => (n - intOf i).toNat)
  case atStart => exact ⟨0, by rw [BitVec.ushiftRight_zero], rfl, by omega, rfl⟩
  case round =>
    obtain ⟨k, rfl, rfl, hk, rfl⟩ := hrel
    have hy0 := wd_nonneg (x >>> k)
    have hy1 := wd_lt (x >>> k)
    have he := shr_step x k
    by_cases hkn : k < n
    · go_wp2
      exact ⟨⟨k + 1, rfl, by go_num, by omega, trivial⟩, by simp [intOf]; omega⟩
    · obtain rfl : k = n := by omega
      go_wp2
      go_ret
      exact ⟨rfl, rfl⟩

end Go.Proofs.Ytkdcelnlhhodlaa
