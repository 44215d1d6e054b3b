/- The walk over the law ShaPads. -/
import Derived.Test.YtnlffbjjndmjgaaShaW
import Derived.Test.YtnlffbjjndmjgaaRefF
namespace Go.Proofs.Ytnlffbjjndmjgaa
open Go.RowKit Go.Deep

theorem padT_head (m : Nat) : ∃ l, padT m = (128 : UInt8) :: l := by rw [← pad_whole]; exact ⟨_, rfl⟩

set_option maxHeartbeats 4000000 in
theorem shaPads_walk (n : Int) (hn : -9223372036854775808 ≤ n ∧ n ≤ 9223372036854775807) (w : World) : Calls Try.prog 5 #[.int .i64 n] w fun e w' => e = .returned (.bool true) ∧ Below w.heap.size w w' := by
  obtain ⟨hn0, hn1⟩ := hn
  by_cases h0 : n < 0
  · go_enter Try.func5, Try.ntmps5
    go_wp2_with fail
    refine (works_any w).mono ?_
    rintro e w1 ⟨rfl, b1⟩
    go_wp2_with fail
    refine (pad_neg n h0 w1).mono ?_
    rintro e w2 ⟨rfl, rfl⟩
    go_wp2_with fail
    go_ret
    exact ⟨rfl, b1⟩
  · have h1 : 0 ≤ n := by omega
    obtain ⟨p, hp⟩ : ∃ p : ByteArray, p = ⟨(padT n.toNat).toArray⟩ := ⟨_, rfl⟩
    obtain ⟨L, hL⟩ : ∃ L, L = padN n.toNat := ⟨_, rfl⟩
    have hs : p.size = L := by rw [hp, hL, size_mk, padT_len]
    have hb := padN_bd n.toNat
    rw [← hL] at hb
    have hb9 : 9 ≤ (L : Int) := by omega
    have hb72 : (L : Int) ≤ 72 := by omega
    have hm : (n % 64 + (L : Int)) % 64 = 0 := by rw [hL]; unfold padN; omega
    have hm' : (n + (L : Int)) % 64 = 0 := by omega
    have hp0 : 0 < p.size := by omega
    have h128 : p[0] = 128 := by
      obtain ⟨l, hh⟩ := padT_head n.toNat
      have : p = ⟨(128 :: l).toArray⟩ := by rw [hp, hh]
      subst this; rfl
    have Hp := Lib.hid hp
    clear hp hL hb
    go_enter Try.func5, Try.ntmps5
    go_wp2_with fail
    refine (works_any w).mono ?_
    rintro e w1 ⟨rfl, b1⟩
    go_wp2_with fail
    refine (pad_any n h1 (by omega) w1).mono ?_
    rw [← Hp.out]
    rintro e w2 ⟨rfl, b2⟩
    go_wp2_with fail
    refine (refPad_any n h1 (by omega) w2).mono ?_
    rw [← Hp.out]
    rintro e w3 ⟨rfl, b3⟩
    go_wp2_with fail
    go_ret
    exact ⟨rfl, b1.trans ((b2.trans (b3.mono b2.size)).mono b1.size)⟩

end Go.Proofs.Ytnlffbjjndmjgaa
