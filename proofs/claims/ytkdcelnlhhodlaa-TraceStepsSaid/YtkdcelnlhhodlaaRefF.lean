/- Walks over the reference: Pad. -/
import Derived.Test.YtkdcelnlhhodlaaShaA
import Derived.Deep.RegionHeld
namespace Go.Proofs.Ytkdcelnlhhodlaa
open Go.RowKit Go.Deep

def endL (R i : Nat) : List UInt8 := (List.range i).map fun t => UInt8.ofNat (R / 256 ^ (i - 1 - t))
theorem endL_next (R i : Nat) : endL R (i + 1) = UInt8.ofNat (R / 256 ^ i) :: endL R i := by
  unfold endL
  rw [List.range_succ_eq_map, List.map_cons, List.map_map]
  congr 1
  apply List.map_congr_left
  intro t ht
  simp only [Function.comp, Nat.succ_eq_add_one]
  congr 3; omega
theorem pad_whole (n : Nat) : (128 : UInt8) :: (List.replicate (63 - (n + 8) % 64) 0 ++ endL (n * 8 % 18446744073709551616) 8) = padT n := by
  unfold padT padL
  apply List.ext_getElem
  · simp [endL, padN]; omega
  · intro i h1 h2
    simp only [List.getElem_map, List.getElem_range]
    unfold padB
    cases i with
    | zero => rfl
    | succ i =>
      rw [List.getElem_cons_succ, if_neg (by omega)]
      simp only [List.length_cons, List.length_append, List.length_replicate, endL, List.length_map, List.length_range] at h1
      by_cases h : i < 63 - (n + 8) % 64
      · rw [List.getElem_append_left (by simpa using h), if_pos (by unfold padN; omega)]; simp
      · rw [List.getElem_append_right (by simpa using h), if_neg (by unfold padN; omega)]
        simp only [endL, List.getElem_map, List.getElem_range, List.length_replicate]
        congr 3; unfold padN; omega

def slen : Value → Nat
  | .string b => b.size
  | _ => 0
def head0 (j : Nat) : ByteArray := ⟨(128 :: List.replicate j 0).toArray⟩
theorem head0_size (j : Nat) : (head0 j).size = j + 1 := by rw [head0, size_mk]; simp
theorem head0_next (j : Nat) : head0 j ++ ⟨#[0]⟩ = head0 (j + 1) := by
  apply ByteArray.ext
  simp [head0, List.replicate_succ']

theorem refPad_neg (n : Int) (h : n < 0) (w : World) :
    Calls Try.prog 32 #[.int .i64 n] w fun e w' => e = .returned (.string ⟨#[]⟩) ∧ w = w' := by
  go_enter Try.func32, Try.ntmps32
  go_wp2
  go_ret
  exact ⟨rfl, rfl⟩

set_option maxHeartbeats 1000000 in
theorem refPad_any (n : Int) (h0 : 0 ≤ n) (h1 : n ≤ 9223372036854775807) (w : World) :
    Calls Try.prog 32 #[.int .i64 n] w fun e w' => e = .returned (.string ⟨(padT n.toNat).toArray⟩) ∧ Below w.heap.size w w' := by
  obtain ⟨m, rfl⟩ := Int.eq_ofNat_of_zero_le h0
  rw [Int.toNat_natCast]
  obtain ⟨z, hz⟩ : ∃ z, z = 63 - (m + 8) % 64 := ⟨_, rfl⟩
  have Hz := Lib.hid hz
  clear hz
  go_enter Try.func32, Try.ntmps32
  go_wp2
  go_loopw [3] (fun v wr => ∃ j : Nat, v = .string (head0 j) ∧ j ≤ z ∧ wr = w) (fun v _ => 65 - slen v)
  case atStart => exact ⟨0, rfl, by omega, rfl⟩
  case round =>
    obtain ⟨j, rfl, hj, rfl⟩ := hrel
    have hs := head0_size j
    have hn := head0_next j
    have hj64 : j ≤ 63 := by have := Hz.out; omega
    by_cases hjz : j < z
    · have hc : (((m : Int) % 64 + ((j : Int) + 1)) % 64 != 56) = true := by have := Hz.out; simp; omega
      go_wp2
      exact ⟨⟨j + 1, rfl, by omega, trivial⟩, by show 65 - (head0 (j + 1)).size < 65 - (head0 j).size; rw [head0_size, head0_size]; omega⟩
    · obtain rfl : j = z := by omega
      have hc : (((m : Int) % 64 + ((j : Int) + 1)) % 64 != 56) = false := by have := Hz.out; simp; omega
      obtain ⟨R, hR⟩ : ∃ R : Nat, R = m * 8 % 18446744073709551616 := ⟨_, rfl⟩
      have hRe : IntKind.u64.wrap ((m : Int) * 8) = (R : Int) := by rw [IntKind.wrap_u64]; omega
      have HR := Lib.hid hR
      clear hR hn
      go_wp2
      clear hc hRe
      generalize Value.bool (decide ((m : Int) < 0)) = y8
      generalize Value.bool (((m : Int) + ((j : Int) + 1)) % 64 != 56) = y15
      obtain ⟨wa, hwa⟩ : ∃ wa : World, wa = wr := ⟨_, rfl⟩
      rw [← hwa]
      have Hwa := Lib.hid hwa
      clear hwa
      go_loopw [4, 5, 6] (fun b v i w' => ∃ k : Nat, i = .int .i64 (k : Int) ∧ k ≤ 8 ∧ b = .int .u64 ((R / 256 ^ k : Nat) : Int) ∧ v = .string ⟨(endL R k).toArray⟩ ∧ Below wa.heap.size wa w') (fun _ _ i _ => (8 - intOf i).toNat)
      case atStart => exact ⟨0, by simp, by omega, by simp, rfl, Below.refl _ _⟩
      case round =>
        obtain ⟨k, rfl, hk, rfl, rfl, hb⟩ := hrel
        by_cases hk8 : k < 8
        · have hk8' : (k : Int) < 8 := by omega
          obtain ⟨y, hy⟩ : ∃ y, y = UInt8.ofNat (R / 256 ^ k) := ⟨_, rfl⟩
          have hn : ((⟨#[y]⟩ : ByteArray) ++ ⟨(endL R k).toArray⟩) = ⟨(endL R (k + 1)).toArray⟩ := by
            apply ByteArray.ext; rw [endL_next, ← hy]; simp
          have hd := div_step R k
          obtain ⟨q, hq⟩ : ∃ q, q = R / 256 ^ k := ⟨_, rfl⟩
          rw [← hq] at hy hd ⊢
          have e : (q : Int) % 256 = (y.toNat : Int) := by rw [hy, u8_mod]
          have hqb : q < 18446744073709551616 := by
            rw [hq]; exact Nat.lt_of_le_of_lt (Nat.div_le_self _ _) (by rw [HR.out]; omega)
          have hqb' : (q : Int) < 18446744073709551616 := by omega
          have hl : (endL R k).length ≤ 8 := by simp [endL]; exact hk
          have hl2 : (⟨(endL R k).toArray⟩ : ByteArray).size ≤ 8 := by rw [size_mk]; exact hl
          have hconv := run_string_of_row (P := Try.prog) 57 9 5 5 Try.underlying57 Try.underlying5 Try.underlying9 (cap := 1) (Row.new wr 5 #[.int .u8 (y.toNat : Int)]) [y] (n := 1) rfl (fun j _ => by simp [u8s])
          clear hq hy
          go_wp2
          have hq2 : IntKind.u64.wrap ((R : Int) / 256 ^ (k + 1)) = ((R / 256 ^ (k + 1) : Nat) : Int) := by
            have : ((R : Int) / 256 ^ (k + 1)) = ((R / 256 ^ (k + 1) : Nat) : Int) := by rw [Int.natCast_ediv, Int.natCast_pow]; rfl
            rw [this, IntKind.wrap_u64]
            have := Nat.div_le_self R (256 ^ (k + 1))
            have := HR.out
            omega
          rw [hq2]
          exact ⟨⟨k + 1, by go_num, by omega, rfl, rfl, hb.alloc hb.size _⟩, by simp [intOf]; omega⟩
        · obtain rfl : k = 8 := by omega
          have hl : (endL R 8).length = 8 := by simp [endL]
          have hl2 : (⟨(endL R 8).toArray⟩ : ByteArray).size = 8 := by rw [size_mk]; exact hl
          have hfin : head0 j ++ (⟨(endL R 8).toArray⟩ : ByteArray) = ⟨(padT m).toArray⟩ := by
            apply ByteArray.ext
            rw [← pad_whole, ← Hz.out, ← HR.out]; simp [head0]
          rw [show ((8 : Nat) : Int) = 8 from rfl]
          go_wp2
          go_ret
          exact ⟨rfl, by rw [← Hwa.out]; exact hb⟩

end Go.Proofs.Ytkdcelnlhhodlaa
