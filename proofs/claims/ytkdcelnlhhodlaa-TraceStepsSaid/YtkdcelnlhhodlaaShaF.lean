/- Walks over package sha: Bytes. -/
import Derived.Test.YtkdcelnlhhodlaaRows
import Derived.Test.YtkdcelnlhhodlaaShaE
import Derived.Test.YtkdcelnlhhodlaaDump
namespace Go.Proofs.Ytkdcelnlhhodlaa
open Go.RowKit Go.Deep

def wbytes (x : BitVec 32) : List UInt8 := [UInt8.ofNat (x >>> 24).toNat, UInt8.ofNat (x >>> 16).toNat, UInt8.ofNat (x >>> 8).toNat, UInt8.ofNat x.toNat]
def bytesL (H : List (BitVec 32)) : List UInt8 := H.flatMap wbytes
theorem bytesL_len (H : List (BitVec 32)) : (bytesL H).length = 4 * H.length := by
  induction H with
  | nil => rfl
  | cons a l ih => simp only [bytesL, List.flatMap_cons, List.length_append, List.length_cons] at ih ⊢; rw [ih]; simp [wbytes]; omega
theorem bytesL_take (H : List (BitVec 32)) (k : Nat) (h : k < H.length) : bytesL (H.take (k + 1)) = bytesL (H.take k) ++ wbytes (H.getD k 0) := by
  rw [List.take_succ_eq_append_getElem h, bytesL, List.flatMap_append]
  simp [bytesL, List.getD, List.getElem?_eq_getElem h]
theorem byte_of (x : BitVec 32) : wd x % (256 : Int) = ((UInt8.ofNat x.toNat).toNat : Int) := by
  unfold wd; simp
theorem isAgg_u32 (w : World) : (isAgg 47).run Try.prog w = .ok false w := by
  unfold isAgg; simp [run_underlying Try.underlying47]
theorem part_u32 (H : List (BitVec 32)) (i : Nat) (hi : i < H.length) (w : World) : (part 47 (wds H).toArray i).run Try.prog w = .ok (.int .u32 (wd (H.getD i 0))) w := by
  unfold part
  rw [Sem.run_bind, isAgg_u32]
  simp only [Result.andThen_ok, Bool.false_eq_true, if_false, wds_at H i hi]
  rfl

theorem news_eq (x : BitVec 32) : [Value.int .u8 (wd (x >>> 24) % (256 : Int)), .int .u8 (wd (x >>> 16) % (256 : Int)), .int .u8 (wd (x >>> 8) % (256 : Int)), .int .u8 (wd x % (256 : Int))] = u8s (wbytes x) := by
  simp only [byte_of, u8s, wbytes, List.map_cons, List.map_nil]

attribute [local go_sem] wd_shr24 wd_shr16 wd_shr8

set_option maxHeartbeats 1000000 in
theorem bytes_any (H : List (BitVec 32)) (hH : H.length = 8) (w : World) :
    Calls Try.prog 25 #[.agg (wds H).toArray] w fun e w' => e = .returned (.string ⟨(bytesL H).toArray⟩) ∧ Below w.heap.size w w' := by
  have HH := Lib.hid hH
  clear hH
  obtain ⟨i0, hi0, hz0, hz1, hz2⟩ := info_parts info_u8
  have r0 := Row.new w 50 (wds H).toArray
  have b0 := (Below.refl w.heap.size w).alloc (Nat.le_refl _) (.cells (wds H).toArray 50)
  have s0 : w.heap.size + 1 ≤ (w.alloc (.cells (wds H).toArray 50)).heap.size := by simp
  go_enter Try.func25, Try.ntmps25
  go_wp2_with (first
    | (refine wpList_load_row rfl 48 _ rfl w.heap.size rfl 50 (wds H).toArray (0, 0) _ r0 Try.underlying48 rfl (by rw [wds_size _ HH.out]; kernel_rfl) ?_))
  generalize w.alloc (.cells (wds H).toArray 50) = w1 at r0 b0 s0 ⊢
  go_loopw [3, 8] (fun v i wr => ∃ k : Nat, i = .int .i64 (k : Int) ∧ k ≤ 8 ∧ wr.ownsRow (w.heap.size + 1) 5 1 v (4 * k) (u8s (bytesL (H.take k))) ∧ Below w.heap.size w wr ∧ w.heap.size + 1 ≤ wr.heap.size) (fun _ i _ => (8 - intOf i).toNat)
  case atStart => exact ⟨0, by simp, by omega, World.ownsRow_nil _ _ _ _, b0, s0⟩
  case round =>
    obtain ⟨k, rfl, hk, hown, hb, hs⟩ := hrel
    by_cases hk8 : k < 8
    · have hidx := run_index_arr (P := Try.prog) wr 48 47 8 (wds H).toArray .i64 k _ Try.underlying48 (part_u32 H k (by rw [HH.out]; exact hk8) wr) (by kernel_rfl) hk8
      obtain ⟨x, hx⟩ : ∃ x, x = H.getD k 0 := ⟨_, rfl⟩
      rw [← hx] at hidx
      have Hx := Lib.hid hx
      clear hx
      have hk8' : (k : Int) < 8 := by omega
      go_wp2_with (
        (at_builtin
         refine wpList_append_own _ rfl (.tmp 11) (.tmp 23) 57 rfl (w.heap.size + 1) 5 i0 (.int .u8 0) 1 1 Try.underlying57 hi0 hz0 hz1 hz2 rfl (by decide) _ _ _ rfl (hown.alloc _) ⟨wr.heap.size, 0, none⟩ 4 4 [.int .u8 (wd (x >>> 24) % (256 : Int)), .int .u8 (wd (x >>> 16) % (256 : Int)), .int .u8 (wd (x >>> 8) % (256 : Int)), .int .u8 (wd x % (256 : Int))] rfl rfl (cells_new _ _ _) ?c2 (by unfold maxLen; omega) (by omega) (by simp; omega) ?_))
      case c2 => rw [news_eq]; exact u8s_oneCell _
      intro v' w2 hown' hg _
      have hb2 := below_grown_own (hb.alloc (by omega) _) (hown.alloc _) hg (by simp; omega) (by omega)
      have hs2 := hg.size
      rw [World.size_alloc] at hs2
      rw [news_eq, Hx.out] at hown'
      clear hg hidx hown hb
      go_wp2
      go_roundw
      case rel => exact ⟨k + 1, by go_num, by omega, by rw [bytesL_take H k (by rw [HH.out]; exact hk8), u8s_append]; exact hown', hb2, by omega⟩
      case measure => simp [intOf]; omega
    · obtain rfl : k = 8 := by omega
      clear hk8
      rw [show ((8 : Nat) : Int) = 8 from rfl]
      rw [List.take_of_length_le (by rw [HH.out]; omega)] at hown
      have hconv := run_string_of_own (P := Try.prog) 57 9 5 Try.underlying57 Try.underlying5 Try.underlying9 _ hown
      clear hown
      go_wp2
      go_ret
      exact ⟨rfl, hb⟩

end Go.Proofs.Ytkdcelnlhhodlaa
