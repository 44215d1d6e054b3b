/- Walks over package sha: cubes, words. -/
import Derived.Test.YtkdcelnlhhodlaaRows
import Derived.Test.YtkdcelnlhhodlaaShaB
namespace Go.Proofs.Ytkdcelnlhhodlaa
open Go.RowKit Go.Deep

def fillStep (l : List UInt8) (W : List (BitVec 32)) (i : Nat) : List (BitVec 32) := W.set (i / 4) (W.getD (i / 4) 0 <<< 8 ||| BitVec.ofNat 32 (l.getD i 0).toNat)
def fill (l : List UInt8) : Nat → List (BitVec 32)
  | 0 => List.replicate 64 0
  | i + 1 => fillStep l (fill l i) i
def expOf (W : List (BitVec 32)) (t : Nat) : BitVec 32 :=
  let x := W.getD (t - 15) 0
  let y := W.getD (t - 2) 0
  W.getD (t - 16) 0 + (x.rotateRight 7 ^^^ x.rotateRight 18 ^^^ x >>> 3) + W.getD (t - 7) 0 + (y.rotateRight 17 ^^^ y.rotateRight 19 ^^^ y >>> 10)
def expand (W : List (BitVec 32)) : Nat → List (BitVec 32)
  | 0 => W
  | i + 1 => (expand W i).set (16 + i) (expOf (expand W i) (16 + i))
def wordsL (l : List UInt8) : List (BitVec 32) := expand (fill l 64) 48

theorem fill_len (l : List UInt8) : ∀ i, (fill l i).length = 64
  | 0 => by simp [fill]
  | i + 1 => by simp [fill, fillStep, fill_len l i]
theorem expand_len (W : List (BitVec 32)) (h : W.length = 64) : ∀ i, (expand W i).length = 64
  | 0 => h
  | i + 1 => by simp [expand, expand_len W h i]

attribute [local go_sem] wd_or wd_xor wd_and wd_add wd_add' wd_shl wd_shl' wd_shr wd_shl8 wd_shr3 wd_shr10

theorem fill_val (x : BitVec 32) (b : UInt8) : bits .or .u32 (wd (x <<< 8)) ((b.toNat : Int) % 4294967296) = wd (x <<< 8 ||| BitVec.ofNat 32 b.toNat) := by
  rw [show ((b.toNat : Int) % 4294967296) = wd (BitVec.ofNat 32 b.toNat) from by rw [← wd_byte]; have := b.toNat_lt; omega, wd_or]
theorem fill_set (l : List UInt8) (k : Nat) : (wds (fill l k)).toArray.setIfInBounds (k / 4) (.int .u32 (bits .or .u32 (wd ((fill l k)[k / 4]?.getD 0#32 <<< 8)) (((l[k]?.getD 0).toNat : Int) % 4294967296))) = (wds (fill l (k + 1))).toArray := by
  rw [fill_val, wds_set]; rfl
theorem right_same (x : BitVec 32) (n : Int) (h0 : 0 < n) (h1 : n < 32) (w : World) :
    Calls Try.prog 38 #[.int .u32 (wd x), .int .i64 n] w fun e w' => e = .returned (.int .u32 (wd (x.rotateRight n.toNat))) ∧ w' = w :=
  (right_any x n h0 h1 w).mono fun _ _ h => ⟨h.1, h.2.symm⟩

theorem exp_set (W : List (BitVec 32)) (k : Nat) : (wds (expand W k)).toArray.setIfInBounds (k + 16) (.int .u32 (wd (expOf (expand W k) (k + 16)))) = (wds (expand W (k + 1))).toArray := by
  rw [wds_set, Nat.add_comm k 16]; rfl

set_option maxHeartbeats 1000000 in
theorem words_any (g : Nat) (T : TypeId) (l : List UInt8) (hl : l.length = 64) (w : World) (hg : g < w.heap.size) (hrow : Row w g T (u8s l).toArray) :
    Calls Try.prog 36 #[.pointer (some ⟨g, 0, none⟩)] w fun e w' => ∃ g', e = .returned (.pointer (some ⟨g', 0, none⟩)) ∧ w.heap.size ≤ g' ∧ Row w' g' 77 (wds (wordsL l)).toArray ∧ Below w.heap.size w w' := by
  have Hl := Lib.hid hl
  clear hl
  go_enter Try.func36, Try.ntmps36
  go_wp2
  go_loopw [10] (fun i wr => ∃ k : Nat, i = .int .i64 (k : Int) ∧ k ≤ 64 ∧ Row wr w.heap.size 77 (wds (fill l k)).toArray ∧ Below w.heap.size w wr) (fun i _ => (64 - intOf i).toNat)
  case atStart => exact ⟨0, by simp, by omega, Row.new _ _ _, (Below.refl _ _).alloc (Nat.le_refl _) _⟩
  case round =>
    obtain ⟨k, rfl, hk, hr, hb⟩ := hrel
    by_cases hk64 : k < 64
    · have hc := (hrow.below hb hg).cellv (u8s_at l k (by rw [Hl.out]; exact hk64))
      have hd := hr.cellv (wds_at (fill l k) (k / 4) (by rw [fill_len]; omega))
      have hf := hr.free (k / 4)
      go_wp2
      go_quiet (fail)
      go_wp2
      go_roundw
      case rel => exact ⟨k + 1, by go_num, by omega, by rw [← fill_set]; exact (hr.drewN _).set _ _, (below_drewN hb _).setCell (p := ⟨w.heap.size, k / 4, none⟩) (Nat.le_refl _) _⟩
      case measure => simp [intOf]; omega
    · obtain rfl : k = 64 := by omega
      clear hk64
      rw [show ((64 : Nat) : Int) = 64 from rfl]
      go_wp2
      go_loopw [6] (fun i wr => ∃ k : Nat, i = .int .i64 ((k : Int) + 16) ∧ k ≤ 48 ∧ Row wr w.heap.size 77 (wds (expand (fill l 64) k)).toArray ∧ Below w.heap.size w wr) (fun i _ => (64 - intOf i).toNat)
      case atStart => exact ⟨0, by simp, by omega, hr, hb⟩
      case round =>
        clear hb hr
        obtain ⟨k, rfl, hk, hr, hb⟩ := hrel
        by_cases hk48 : k < 48
        · have h16 := hr.cellv (wds_at _ k (by rw [expand_len _ (fill_len _ _)]; omega))
          have h15 := hr.cellv (wds_at _ (k + 1) (by rw [expand_len _ (fill_len _ _)]; omega))
          have h7 := hr.cellv (wds_at _ (k + 9) (by rw [expand_len _ (fill_len _ _)]; omega))
          have h2 := hr.cellv (wds_at _ (k + 14) (by rw [expand_len _ (fill_len _ _)]; omega))
          have h0 := hr.cellv (wds_at _ (k + 16) (by rw [expand_len _ (fill_len _ _)]; omega))
          have hf := hr.free (k + 16)
          go_wp2
          go_quiet (fail)
          go_wp2
          refine region_still_tail 29 (by kernel_rfl) (by kernel_rfl) ?_
          simp only [List.take_succ_cons, List.take_zero, List.drop_succ_cons, List.drop_zero]
          have e16 : IntKind.i64.wrap (k : Int) = (k : Int) := by rw [IntKind.wrap_i64]; omega
          have e7 : IntKind.i64.wrap ((k : Int) + 16 - 7) = (k : Int) + 9 := by rw [IntKind.wrap_i64]; omega
          have t9 : ((k : Int) + 9).toNat = k + 9 := by omega
          have t16 : ((k : Int) + 16).toNat = k + 16 := by omega
          have p9 : (k : Int) + 9 < 64 := by omega
          have p0 : (k : Int) < 64 := by omega
          have q9 : 0 ≤ (k : Int) + 9 := by omega
          have q16 : 0 ≤ (k : Int) + 16 := by omega
          repeat (first | still_step | still_call (right_same _ _ (by omega) (by omega) _))
          refine wpStill_nil ?_
          clear e16 e7 t9 p9 p0 q9 q16
          go_wp2
          go_roundw
          case rel => exact ⟨k + 1, by go_num, by omega, by rw [← exp_set]; exact (hr.drewN _).set _ _, (below_drewN hb _).setCell (p := ⟨w.heap.size, k + 16, none⟩) (Nat.le_refl _) _⟩
          case measure => simp [intOf]; omega
        · obtain rfl : k = 48 := by omega
          clear hk48
          go_wp2
          go_ret
          exact ⟨_, rfl, Nat.le_refl _, hr, hb⟩

end Go.Proofs.Ytkdcelnlhhodlaa
