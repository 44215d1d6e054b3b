/- The walk over the law ShaSums. -/
import Derived.Test.YtnlffbjjndmjgaaShaW
import Derived.Test.YtnlffbjjndmjgaaRefG
namespace Go.Proofs.Ytnlffbjjndmjgaa
open Go.RowKit Go.Deep

theorem sumL_len (s : List UInt8) : (sumL s).length = 32 := by
  rw [sumL, bytesL_len, hashFold_len _ _ rfl]

set_option maxHeartbeats 4000000 in
theorem shaSums_walk (s : ByteArray) (w : World) : Calls Try.prog 3 #[.string s] w fun e w' => e = .returned (.bool true) ∧ Below w.heap.size w w' := by
  by_cases hs : 500 < s.size
  · go_enter Try.func3, Try.ntmps3
    go_wp2_with fail
    refine (works_any w).mono ?_
    rintro e w1 ⟨rfl, b1⟩
    go_wp2_with fail
    go_ret
    exact ⟨rfl, b1⟩
  · have hl : (⟨(sumL s.data.toList).toArray⟩ : ByteArray).size = 32 := by rw [size_mk, sumL_len]
    have hs' : s.size ≤ 500 := by omega
    obtain ⟨d, hd⟩ : ∃ d : ByteArray, d = ⟨(sumL s.data.toList).toArray⟩ := ⟨_, rfl⟩
    obtain ⟨x, hx⟩ : ∃ x : ByteArray, x = ⟨(hexL s.data.toList).toArray⟩ := ⟨_, rfl⟩
    rw [← hd] at hl
    have Hd := Lib.hid hd
    have Hx := Lib.hid hx
    clear hd hx
    go_enter Try.func3, Try.ntmps3
    go_wp2_with fail
    refine (works_any w).mono ?_
    rintro e w1 ⟨rfl, b1⟩
    go_wp2_with fail
    refine (sum_any s (by omega) w1).mono ?_
    rw [← Hd.out]
    rintro e w2 ⟨rfl, b2⟩
    go_wp2_with fail
    refine (refSum_any s hs' w2).mono ?_
    rw [← Hd.out]
    rintro e w3 ⟨rfl, b3⟩
    go_wp2_with fail
    refine (hex_any s (by omega) w3).mono ?_
    rw [← Hx.out]
    rintro e w4 ⟨rfl, b4⟩
    go_wp2_with fail
    refine (refHex_any s (by omega) w4).mono ?_
    rw [← Hx.out]
    rintro e w5 ⟨rfl, b5⟩
    go_wp2_with fail
    refine (sum_any s (by omega) w5).mono ?_
    rw [← Hd.out]
    rintro e w6 ⟨rfl, b6⟩
    go_wp2_with fail
    go_ret
    exact ⟨rfl, b1.trans ((b2.trans ((b3.trans ((b4.trans ((b5.trans (b6.mono b5.size)).mono b4.size)).mono b3.size)).mono b2.size)).mono b1.size)⟩

end Go.Proofs.Ytnlffbjjndmjgaa
