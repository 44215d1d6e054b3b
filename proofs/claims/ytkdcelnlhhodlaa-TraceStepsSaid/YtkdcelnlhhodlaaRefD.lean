/- Walks over the reference: Bytes, Hex, Sum. -/
import Derived.Test.YtkdcelnlhhodlaaRefC
import Derived.Test.YtkdcelnlhhodlaaShaF
import Derived.Deep.RegionHeld
namespace Go.Proofs.Ytkdcelnlhhodlaa
open Go.RowKit Go.Deep

theorem tdiv_u32 (x : BitVec 32) (m : Nat) (d : Int) (hd : (2 : Int) ^ m = d) : IntKind.u32.wrap ((wd x).tdiv d) = wd (x >>> m) := by
  rw [Int.tdiv_eq_ediv_of_nonneg (wd_nonneg x), ← hd, wd_shr]; exact wd_wrap _
theorem tmod_u8 (x : BitVec 32) : IntKind.u8.wrap ((wd x).tmod 256) = ((UInt8.ofNat x.toNat).toNat : Int) := by
  rw [Int.tmod_eq_emod_of_nonneg (wd_nonneg x), ← byte_of, IntKind.wrap_u8]; omega
theorem wrap_u8 (x : BitVec 32) : IntKind.u8.wrap (wd x) = ((UInt8.ofNat x.toNat).toNat : Int) := by
  rw [← byte_of, IntKind.wrap_u8]
theorem four_bytes (x : BitVec 32) : ∃ b3 b2 b1 b0 : UInt8, wbytes x = [b3, b2, b1, b0] ∧ IntKind.u8.wrap (IntKind.u32.wrap ((wd x).tdiv 16777216)) = (b3.toNat : Int) ∧ IntKind.u8.wrap ((IntKind.u32.wrap ((wd x).tdiv 65536)).tmod 256) = (b2.toNat : Int) ∧
    IntKind.u8.wrap ((IntKind.u32.wrap ((wd x).tdiv 256)).tmod 256) = (b1.toNat : Int) ∧ IntKind.u8.wrap ((wd x).tmod 256) = (b0.toNat : Int) :=
  ⟨_, _, _, _, rfl, by rw [tdiv_u32 x 24 _ (by decide), wrap_u8], by rw [tdiv_u32 x 16 _ (by decide), tmod_u8], by rw [tdiv_u32 x 8 _ (by decide), tmod_u8], tmod_u8 x⟩

attribute [local go_sem] wd_shr24 wd_shr16 wd_shr8

set_option maxHeartbeats 1000000 in
theorem refBytes_any (H : List (BitVec 32)) (hH : H.length = 8) (w : World) :
    Calls Try.prog 34 #[.agg (wds H).toArray] w fun e w' => e = .returned (.string ⟨(bytesL H).toArray⟩) ∧ Below w.heap.size w w' := by
  have HH := Lib.hid hH
  clear hH
  go_enter Try.func34, Try.ntmps34
  go_wp2
  have r0 := Row.new w 48 (wds H).toArray
  have b0 := (Below.refl w.heap.size w).alloc (Nat.le_refl _) (.cells (wds H).toArray 48)
  generalize w.alloc (.cells (wds H).toArray 48) = w1 at r0 b0 ⊢
  obtain ⟨G, hG⟩ : ∃ G, G = w.heap.size := ⟨_, rfl⟩
  rw [← hG] at r0 b0 ⊢
  have HG := Lib.hid hG
  clear hG
  go_loopw [3, 4] (fun v i wr => ∃ k : Nat, i = .int .i64 (k : Int) ∧ k ≤ 8 ∧ v = .string ⟨(bytesL (H.take k)).toArray⟩ ∧ Row wr G 48 (wds H).toArray ∧ Below G w wr) (fun _ i _ => (8 - intOf i).toNat)
  case atStart => exact ⟨0, by simp, by omega, rfl, r0, b0⟩
  case round =>
    clear r0 b0
    obtain ⟨k, rfl, hk, rfl, r0, b0⟩ := hrel
    by_cases hk8 : k < 8
    · have c0 := r0.cellv (wds_at H k (by rw [HH.out]; exact hk8))
      obtain ⟨x, hx⟩ : ∃ x, x = H.getD k 0 := ⟨_, rfl⟩
      rw [← hx] at c0
      have Hx := Lib.hid hx
      clear hx
      have hk8' : (k : Int) < 8 := by omega
      go_wp2
      obtain ⟨y3, y2, y1, y0, hy, e24, e16, e8, e0⟩ := four_bytes x
      have Hy := Lib.hid hy
      clear hy
      have hconv := run_string_of_row (P := Try.prog) 57 9 5 5 Try.underlying57 Try.underlying5 Try.underlying9 (cap := 4) (Row.drew (Row.new wr 5 #[.int .u8 (y3.toNat : Int), .int .u8 (y2.toNat : Int), .int .u8 (y1.toNat : Int), .int .u8 (y0.toNat : Int)])) [y3, y2, y1, y0] (n := 4) rfl (fun j _ => by simp [u8s])
      have hlen : (bytesL (H.take k)).length ≤ 32 := by rw [bytesL_len, List.length_take]; omega
      have hlen2 : (⟨(bytesL (H.take k)).toArray⟩ : ByteArray).size ≤ 32 := by rw [size_mk]; exact hlen
      go_region_held (fun W => W.cell? ⟨G, k, none⟩ = some (.int .u32 (wd x))) (go_keep) (fail)
      have hstr : ((⟨(bytesL (H.take k)).toArray⟩ : ByteArray) ++ ⟨#[y3, y2, y1, y0]⟩) = ⟨(bytesL (H.take (k + 1))).toArray⟩ := by
        apply ByteArray.ext
        rw [bytesL_take H k (by rw [HH.out]; exact hk8), ← Hx.out, Hy.out]; simp
      rw [hstr]
      clear hstr hconv e24 e16 e8 e0
      go_wp2
      go_roundw
      case rel => exact ⟨k + 1, by go_num, by omega, rfl, (r0.alloc _).drew, Below.drew (b0.alloc (Nat.le_of_lt r0.lt) _)⟩
      case measure => simp [intOf]; omega
    · obtain rfl : k = 8 := by omega
      rw [show ((8 : Nat) : Int) = 8 from rfl]
      rw [List.take_of_length_le (by rw [HH.out]; omega)]
      go_wp2
      go_ret
      exact ⟨rfl, by rw [← HG.out]; exact b0⟩

end Go.Proofs.Ytkdcelnlhhodlaa
