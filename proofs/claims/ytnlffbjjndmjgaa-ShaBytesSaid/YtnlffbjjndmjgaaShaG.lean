/- Walks over package sha: Hex. -/
import Derived.Test.YtnlffbjjndmjgaaBld
namespace Go.Proofs.Ytnlffbjjndmjgaa
open Go.RowKit Go.Deep

def hexD (n : Nat) : UInt8 := if n < 10 then UInt8.ofNat (48 + n) else UInt8.ofNat (87 + n)
def hexB (b : UInt8) : List UInt8 := [hexD (b.toNat / 16), hexD (b.toNat % 16)]
def hexL (l : List UInt8) : List UInt8 := l.flatMap hexB

theorem hexL_len (l : List UInt8) : (hexL l).length = 2 * l.length := by
  induction l with
  | nil => rfl
  | cons a l ih => simp only [hexL, List.flatMap_cons, List.length_append, List.length_cons] at ih ⊢; rw [ih]; simp [hexB]; omega

def hexDigits : ByteArray := ⟨#[48, 49, 50, 51, 52, 53, 54, 55, 56, 57, 97, 98, 99, 100, 101, 102]⟩
theorem hexD_eq : ∀ n : Fin 16, hexDigits[n.val]'(n.isLt) = hexD n.val := by decide
theorem hexD_at (n : Nat) (h : n < 16) : (⟨#[48, 49, 50, 51, 52, 53, 54, 55, 56, 57, 97, 98, 99, 100, 101, 102]⟩ : ByteArray)[n]'(h) = hexD n := hexD_eq ⟨n, h⟩
theorem hex_step (s : ByteArray) (k : Nat) (h : k < s.size) (h1 : s[k].toNat / 16 < 16) (h2 : s[k].toNat % 16 < 16) :
    u8s (hexL (s.data.toList.take k)) ++ [Value.int .u8 (((⟨#[48, 49, 50, 51, 52, 53, 54, 55, 56, 57, 97, 98, 99, 100, 101, 102]⟩ : ByteArray)[s[k].toNat / 16]'h1).toNat : Int)] ++ [Value.int .u8 (((⟨#[48, 49, 50, 51, 52, 53, 54, 55, 56, 57, 97, 98, 99, 100, 101, 102]⟩ : ByteArray)[s[k].toNat % 16]'h2).toNat : Int)] = u8s (hexL (s.data.toList.take (k + 1))) := by
  rw [hexD_at _ h1, hexD_at _ h2, List.take_succ_eq_append_getElem (by simpa using h), hexL, hexL, List.flatMap_append, u8s_append, List.append_assoc]
  simp [u8s, hexB]; exact ⟨rfl, rfl⟩

set_option maxHeartbeats 2000000 in
theorem hex_any (s : ByteArray) (hs : s.size ≤ 65536) (w : World) :
    Calls Try.prog 12 #[.string s] w fun e w' => e = .returned (.string ⟨(hexL s.data.toList).toArray⟩) ∧ Below w.heap.size w w' := by
  go_enter Try.func12, Try.ntmps12
  go_wp2
  go_loopw [4, 7] (fun _ i wr => ∃ k : Nat, i = .int .i64 (k : Int) ∧ k ≤ s.size ∧ Lib.IsBuilder 47 5 w.heap.size w.heap.size (u8s (hexL (s.data.toList.take k))) wr ∧ Below w.heap.size w wr) (fun _ i _ => (s.size - intOf i).toNat)
  case atStart => exact ⟨0, by simp, by omega, Lib.fresh_isBuilder _ _ _, (Below.refl _ _).alloc (Nat.le_refl _) _⟩
  case round =>
    obtain ⟨k, rfl, hk, hB, hb⟩ := hrel
    by_cases hlt : k < s.size
    · have hd1 : (s[k].toNat : Int) / 16 < 16 := by have := s[k].toNat_lt; omega
      have hd0 : 0 ≤ (s[k].toNat : Int) / 16 := by omega
      have hL : (u8s (hexL (s.data.toList.take k))).length + 2 ≤ 140737488355328 := by
        have := hexL_len (s.data.toList.take k)
        have := List.length_take_le k s.data.toList
        rw [u8s_length]; omega
      go_wp2_with fail
      refine (writeByte_any _ _ _ _ _ hB (by omega) hb.size).mono ?_
      rintro e w1 ⟨rfl, hB1, hb1⟩
      have hd3 : (s[k].toNat : Int) % 16 < 16 := by omega
      have hd2 : 0 ≤ (s[k].toNat : Int) % 16 := by omega
      go_wp2_with fail
      refine (writeByte_any _ _ _ _ _ (.inr hB1) (by simp at hL ⊢; omega) (Nat.le_trans hb.size hb1.size)).mono ?_
      rintro e w2 ⟨rfl, hB2, hb2⟩
      rw [hex_step s k hlt] at hB2
      clear hB1 hB hL
      go_wp2
      go_roundw
      case rel => exact ⟨k + 1, by go_num, by omega, .inr hB2, (hb.trans hb1).trans hb2⟩
      case measure => simp [intOf]; omega
    · obtain rfl : k = s.size := by omega
      clear hlt
      rw [List.take_of_length_le (by simp)] at hB
      go_wp2_with fail
      refine (bld_String_any _ _ _ _ hB hb.size).mono ?_
      rintro e w1 ⟨rfl, hb1⟩
      go_wp2
      go_ret
      exact ⟨rfl, hb.trans hb1⟩

end Go.Proofs.Ytnlffbjjndmjgaa
