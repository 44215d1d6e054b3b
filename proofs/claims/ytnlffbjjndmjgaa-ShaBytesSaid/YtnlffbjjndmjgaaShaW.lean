/- The walk over the law's works: its fixed facts hold. -/
import Derived.Test.YtnlffbjjndmjgaaShaI
import Derived.Test.YtnlffbjjndmjgaaShaG
namespace Go.Proofs.Ytnlffbjjndmjgaa
open Go.RowKit Go.Deep

def abcD : List UInt8 := [186, 120, 22, 191, 143, 1, 207, 234, 65, 65, 64, 222, 93, 174, 34, 35, 176, 3, 97, 163, 150, 23, 122, 156, 180, 16, 255, 97, 242, 0, 21, 173]
def abcH : List UInt8 := [98, 97, 55, 56, 49, 54, 98, 102, 56, 102, 48, 49, 99, 102, 101, 97, 52, 49, 52, 49, 52, 48, 100, 101, 53, 100, 97, 101, 50, 50, 50, 51, 98, 48, 48, 51, 54, 49, 97, 51, 57, 54, 49, 55, 55, 97, 57, 99, 98, 52, 49, 48, 102, 102, 54, 49, 102, 50, 48, 48, 49, 53, 97, 100]
theorem abc_sum : sumL [97, 98, 99] = abcD := by decide +kernel
theorem abc_hex : hexL abcD = abcH := by decide +kernel
theorem pad3_len : (padT 3).length = 61 := by decide +kernel

theorem sum_abc (w : World) : Calls Try.prog 10 #[.string ⟨#[97, 98, 99]⟩] w fun e w' => e = .returned (.string ⟨abcD.toArray⟩) ∧ Below w.heap.size w w' := by
  rw [← abc_sum]; exact sum_any ⟨#[97, 98, 99]⟩ (by decide) w
theorem hex_abc (w : World) : Calls Try.prog 12 #[.string ⟨abcD.toArray⟩] w fun e w' => e = .returned (.string ⟨abcH.toArray⟩) ∧ Below w.heap.size w w' := by
  rw [← abc_hex]; exact hex_any ⟨abcD.toArray⟩ (by decide) w
theorem hex_a (w : World) : Calls Try.prog 12 #[.string ⟨#[10]⟩] w fun e w' => e = .returned (.string ⟨#[48, 97]⟩) ∧ Below w.heap.size w w' := by
  have h := hex_any ⟨#[10]⟩ (by decide) w
  rwa [show (⟨(hexL (⟨#[10]⟩ : ByteArray).data.toList).toArray⟩ : ByteArray) = ⟨#[48, 97]⟩ from by decide +kernel] at h
theorem start_index (w : World) : (Instr.index 26 (.agg (wds startL).toArray) (.int .i64 0)).run Try.prog w = .ok (.int .u32 1779033703) w :=
  run_index_arr w 26 25 8 (wds startL).toArray .i64 0 _ Try.underlying26 (part_u32 startL 0 (by decide) w) (by kernel_rfl) (by omega)

theorem state_field (H : List (BitVec 32)) (hH : H.length = 8) (w : World) : (Instr.field 29 (.agg (wds H).toArray) 0).run Try.prog w = .ok (.agg (wds H).toArray) w := by
  obtain ⟨a, b, c, d, e, f, g, i, rfl⟩ := eight hH
  kernel_rfl

set_option maxHeartbeats 1000000 in
theorem works_any (w : World) : Calls Try.prog 9 #[] w fun e w' => e = .returned (.bool true) ∧ Below w.heap.size w w' := by
  go_enter Try.func9, Try.ntmps9
  go_wp2_with fail
  refine (sum_abc w).mono ?_
  rintro e w1 ⟨rfl, b1⟩
  go_wp2_with fail
  refine (hex_abc w1).mono ?_
  rintro e w2 ⟨rfl, b2⟩
  have heq : (abcH == [98, 97, 55, 56, 49, 54, 98, 102, 56, 102, 48, 49, 99, 102, 101, 97, 52, 49, 52, 49, 52, 48, 100, 101, 53, 100, 97, 101, 50, 50, 50, 51, 98, 48, 48, 51, 54, 49, 97, 51, 57, 54, 49, 55, 55, 97, 57, 99, 98, 52, 49, 48, 102, 102, 54, 49, 102, 50, 48, 48, 49, 53, 97, 100]) = true := by decide
  go_wp2_with fail
  refine (start_any w2).mono ?_
  rintro e w3 ⟨rfl, b3⟩
  have hidx := start_index
  have hfld := state_field startL rfl
  clear heq
  go_wp2_with fail
  refine (pad_any 3 (by omega) (by omega) w3).mono ?_
  rintro e w4 ⟨rfl, b4⟩
  have hpl : (⟨(padT (Int.toNat 3)).toArray⟩ : ByteArray).size = 61 := by rw [size_mk]; exact pad3_len
  go_wp2_with fail
  refine (hex_a w4).mono ?_
  rintro e w5 ⟨rfl, b5⟩
  go_wp2_with fail
  go_ret
  exact ⟨rfl, b1.trans ((b2.trans ((b3.trans ((b4.trans (b5.mono b4.size)).mono b3.size)).mono b2.size)).mono b1.size)⟩

end Go.Proofs.Ytnlffbjjndmjgaa
