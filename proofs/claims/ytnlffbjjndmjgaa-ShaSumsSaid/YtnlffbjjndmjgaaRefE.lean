/- Walks over the reference: Hex, Sum. -/
import Derived.Test.YtnlffbjjndmjgaaRefD
import Derived.Test.YtnlffbjjndmjgaaShaG
import Derived.Test.YtnlffbjjndmjgaaShaH
import Derived.Test.YtnlffbjjndmjgaaShaA
namespace Go.Proofs.Ytnlffbjjndmjgaa
open Go.RowKit Go.Deep

theorem hexD_cut : ∀ n : Fin 16, ((⟨#[48, 49, 50, 51, 52, 53, 54, 55, 56, 57, 97, 98, 99, 100, 101, 102]⟩ : ByteArray).extract n.val (n.val + 1)) = ⟨#[hexD n.val]⟩ := by decide +kernel
theorem hexD_cut' (n : Nat) (h : n < 16) : ((⟨#[48, 49, 50, 51, 52, 53, 54, 55, 56, 57, 97, 98, 99, 100, 101, 102]⟩ : ByteArray).extract n (n + 1)) = ⟨#[hexD n]⟩ := hexD_cut ⟨n, h⟩
theorem hexL_next (s : ByteArray) (k hi lo : Nat) (h : k < s.size) (h1 : hi = s[k].toNat / 16) (h2 : lo = s[k].toNat % 16) : ((⟨(hexL (s.data.toList.take k)).toArray⟩ : ByteArray) ++ ⟨#[hexD hi]⟩ ++ ⟨#[hexD lo]⟩) = ⟨(hexL (s.data.toList.take (k + 1))).toArray⟩ := by
  apply ByteArray.ext
  rw [List.take_succ_eq_append_getElem (by simpa using h), hexL, hexL, List.flatMap_append, h1, h2]
  simp [hexB]; exact ⟨rfl, rfl⟩

set_option maxHeartbeats 1000000 in
theorem refHex_any (s : ByteArray) (hs : s.size ≤ 65536) (w : World) :
    Calls Try.prog 13 #[.string s] w fun e w' => e = .returned (.string ⟨(hexL s.data.toList).toArray⟩) ∧ Below w.heap.size w w' := by
  go_enter Try.func13, Try.ntmps13
  go_wp2
  go_loopw [4, 5] (fun v i wr => ∃ k : Nat, i = .int .i64 (k : Int) ∧ k ≤ s.size ∧ v = .string ⟨(hexL (s.data.toList.take k)).toArray⟩ ∧ Below w.heap.size w wr) (fun _ i _ => (s.size - intOf i).toNat)
  case atStart => exact ⟨0, by simp, by omega, rfl, Below.refl _ _⟩
  case round =>
    obtain ⟨k, rfl, hk, rfl, b0⟩ := hrel
    by_cases hlt : k < s.size
    · have hlt' : (k : Int) < (s.size : Int) := by omega
      have hb := s[k].toNat_lt
      obtain ⟨hi, hhi⟩ : ∃ hi : Nat, hi = s[k].toNat / 16 := ⟨_, rfl⟩
      obtain ⟨lo, hlo⟩ : ∃ lo : Nat, lo = s[k].toNat % 16 := ⟨_, rfl⟩
      have h16 : IntKind.i64.wrap ((s[k].toNat : Int).tdiv 16) = (hi : Int) := by rw [Int.tdiv_eq_ediv_of_nonneg (by omega), IntKind.wrap_i64]; omega
      have l16 : (s[k].toNat : Int).tmod 16 = (lo : Int) := by rw [Int.tmod_eq_emod_of_nonneg (by omega)]; omega
      have hw : IntKind.i64.wrap (s[k].toNat : Int) = (s[k].toNat : Int) := by rw [IntKind.wrap_i64]; omega
      have hh : hi < 16 := by omega
      have hl : lo < 16 := by omega
      have hi1 : (hi : Int) + 1 ≤ 16 := by omega
      have lo1 : (lo : Int) + 1 ≤ 16 := by omega
      have Hhi := Lib.hid hhi
      have Hlo := Lib.hid hlo
      have hlen : (hexL (s.data.toList.take k)).length ≤ 131072 := by
        have := hexL_len (s.data.toList.take k)
        have := List.length_take_le k s.data.toList
        omega
      have hlen2 : (⟨(hexL (s.data.toList.take k)).toArray⟩ : ByteArray).size ≤ 131072 := by rw [size_mk]; exact hlen
      clear hhi hlo
      go_wp2
      go_quiet (fail)
      go_wp2
      rw [show ((s[k].toNat : Int) / 16) = (hi : Int) from by rw [Hhi.out]; rfl]
      clear h16 l16 hw
      go_quiet (fail)
      go_wp2
      rw [hexD_cut' hi hh, hexD_cut' lo hl, hexL_next s k hi lo hlt Hhi.out Hlo.out]
      exact ⟨⟨k + 1, by go_num, by omega, rfl, below_drewN b0 _⟩, by simp [intOf]; omega⟩
    · obtain rfl : k = s.size := by omega
      rw [List.take_of_length_le (by simp)]
      go_wp2
      go_ret
      exact ⟨rfl, b0⟩

end Go.Proofs.Ytnlffbjjndmjgaa
