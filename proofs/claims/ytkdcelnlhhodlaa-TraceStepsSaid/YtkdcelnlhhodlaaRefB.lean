/- Walks over the reference: words. -/
import Derived.Test.YtkdcelnlhhodlaaRefA
import Derived.Test.YtkdcelnlhhodlaaShaC
namespace Go.Proofs.Ytkdcelnlhhodlaa
open Go.RowKit Go.Deep

theorem ref_fill (x : BitVec 32) (b : UInt8) : IntKind.u32.wrap (IntKind.u32.wrap (wd x * 256) + IntKind.u32.wrap (b.toNat : Int)) = wd (x <<< 8 ||| BitVec.ofNat 32 b.toNat) := by
  have h : x <<< 8 &&& BitVec.ofNat 32 b.toNat = 0#32 := by
    apply BitVec.eq_of_getLsbD_eq
    intro i hi
    simp only [BitVec.getLsbD_and, BitVec.getLsbD_shiftLeft, BitVec.getLsbD_zero, BitVec.getLsbD_ofNat]
    by_cases h8 : i < 8
    · simp [h8]
    · have : b.toNat.testBit i = false := Nat.testBit_lt_two_pow (Nat.lt_of_lt_of_le b.toNat_lt (Nat.pow_le_pow_right (by omega) (by omega : 8 ≤ i)))
      simp [this]
  rw [← BitVec.add_eq_or_of_and_eq_zero _ _ h, IntKind.wrap_u32, IntKind.wrap_u32, IntKind.wrap_u32]
  unfold wd
  rw [BitVec.toNat_add, BitVec.toNat_shiftLeft, Nat.shiftLeft_eq, BitVec.toNat_ofNat]
  have := b.toNat_lt
  omega

theorem zeros64 : (#[.int .u32 0, .int .u32 0, .int .u32 0, .int .u32 0, .int .u32 0, .int .u32 0, .int .u32 0, .int .u32 0,
    .int .u32 0, .int .u32 0, .int .u32 0, .int .u32 0, .int .u32 0, .int .u32 0, .int .u32 0, .int .u32 0,
    .int .u32 0, .int .u32 0, .int .u32 0, .int .u32 0, .int .u32 0, .int .u32 0, .int .u32 0, .int .u32 0,
    .int .u32 0, .int .u32 0, .int .u32 0, .int .u32 0, .int .u32 0, .int .u32 0, .int .u32 0, .int .u32 0,
    .int .u32 0, .int .u32 0, .int .u32 0, .int .u32 0, .int .u32 0, .int .u32 0, .int .u32 0, .int .u32 0,
    .int .u32 0, .int .u32 0, .int .u32 0, .int .u32 0, .int .u32 0, .int .u32 0, .int .u32 0, .int .u32 0,
    .int .u32 0, .int .u32 0, .int .u32 0, .int .u32 0, .int .u32 0, .int .u32 0, .int .u32 0, .int .u32 0,
    .int .u32 0, .int .u32 0, .int .u32 0, .int .u32 0, .int .u32 0, .int .u32 0, .int .u32 0, .int .u32 0] : Array Value) = (wds (List.replicate 64 0)).toArray := rfl

attribute [local go_sem] wd_or wd_xor wd_and wd_add wd_add'

set_option maxHeartbeats 1000000 in
theorem refWords_any (l : List UInt8) (hl : l.length = 64) (w : World) :
    Calls Try.prog 41 #[.agg (u8s l).toArray] w fun e w' => e = .returned (.agg (wds (wordsL l)).toArray) ∧ Below w.heap.size w w' := by
  have Hl := Lib.hid hl
  clear hl
  go_enter Try.func41, Try.ntmps41
  go_wp2_with fail
  rw [zeros64]
  have r0 : Row (((w.alloc (.cells (u8s l).toArray 55)).alloc (.cells (wds (List.replicate 64 0)).toArray 77)).alloc (.cells (wds (List.replicate 64 0)).toArray 77)) w.heap.size 55 (u8s l).toArray := ((Row.new _ _ _).alloc _).alloc _
  have r1 : Row (((w.alloc (.cells (u8s l).toArray 55)).alloc (.cells (wds (List.replicate 64 0)).toArray 77)).alloc (.cells (wds (List.replicate 64 0)).toArray 77)) (w.heap.size + 1) 77 (wds (List.replicate 64 0)).toArray := by
    have h := (Row.new (w.alloc (.cells (u8s l).toArray 55)) 77 (wds (List.replicate 64 0)).toArray).alloc (.cells (wds (List.replicate 64 0)).toArray 77)
    rwa [World.size_alloc] at h
  have r2 : Row (((w.alloc (.cells (u8s l).toArray 55)).alloc (.cells (wds (List.replicate 64 0)).toArray 77)).alloc (.cells (wds (List.replicate 64 0)).toArray 77)) (w.heap.size + 1 + 1) 77 (wds (fill l (4 * 0))).toArray := by
    have h := Row.new ((w.alloc (.cells (u8s l).toArray 55)).alloc (.cells (wds (List.replicate 64 0)).toArray 77)) 77 (wds (List.replicate 64 0)).toArray
    rwa [World.size_alloc, World.size_alloc] at h
  have b0 : Below w.heap.size w (((w.alloc (.cells (u8s l).toArray 55)).alloc (.cells (wds (List.replicate 64 0)).toArray 77)).alloc (.cells (wds (List.replicate 64 0)).toArray 77)) :=
    (((Below.refl _ _).alloc (Nat.le_refl _) _).alloc (by simp) _).alloc (by simp; omega) _
  generalize (((w.alloc (.cells (u8s l).toArray 55)).alloc (.cells (wds (List.replicate 64 0)).toArray 77)).alloc (.cells (wds (List.replicate 64 0)).toArray 77)) = w1 at r0 r1 r2 b0 ⊢
  obtain ⟨G, hG⟩ : ∃ G, G = w.heap.size := ⟨_, rfl⟩
  rw [← hG] at r0 r1 r2 b0 ⊢
  have HG := Lib.hid hG
  clear hG
  go_loopw [4] (fun i wr => ∃ k : Nat, i = .int .i64 (k : Int) ∧ k ≤ 16 ∧ Row wr G 55 (u8s l).toArray ∧ Row wr (G + 1) 77 (wds (List.replicate 64 0)).toArray ∧ Row wr (G + 1 + 1) 77 (wds (fill l (4 * k))).toArray ∧ Below G w wr) (fun i _ => (16 - intOf i).toNat)
  case atStart => exact ⟨0, by simp, by omega, r0, r1, r2, b0⟩
  case round =>
    clear r0 r1 r2 b0
    obtain ⟨t, rfl, ht, r0, r1, r2, b0⟩ := hrel
    by_cases ht16 : t < 16
    · have ht16' : (t : Int) < 16 := by omega
      go_wp2
      go_loopw [5] (fun i wr => ∃ k : Nat, i = .int .i64 (k : Int) ∧ k ≤ 4 ∧ Row wr G 55 (u8s l).toArray ∧ Row wr (G + 1) 77 (wds (List.replicate 64 0)).toArray ∧ Row wr (G + 1 + 1) 77 (wds (fill l (4 * t + k))).toArray ∧ Below G w wr) (fun i _ => (4 - intOf i).toNat)
      case atStart => exact ⟨0, by simp, by omega, r0, r1, r2, b0⟩
      case round =>
        clear r0 r1 r2 b0
        obtain ⟨k, rfl, hk, r0, r1, r2, b0⟩ := hrel
        by_cases hk4 : k < 4
        · go_wp2
          have hi : (4 * t + k) / 4 = t := by omega
          have cw := r2.cellv (wds_at _ t (by rw [fill_len]; omega))
          have cb := r0.cellv (u8s_at l (4 * t + k) (by rw [Hl.out]; omega))
          have ft := r2.free t
          refine region_still_tail 14 (by kernel_rfl) (by kernel_rfl) ?_
          simp only [List.take_succ_cons, List.take_zero, List.drop_succ_cons, List.drop_zero]
          have e4 : IntKind.i64.wrap (4 * (t : Int)) = 4 * (t : Int) := by rw [IntKind.wrap_i64]; omega
          have e5 : IntKind.i64.wrap (4 * (t : Int) + (k : Int)) = 4 * (t : Int) + (k : Int) := by rw [IntKind.wrap_i64]; omega
          have t5 : (4 * (t : Int) + (k : Int)).toNat = 4 * t + k := by omega
          have p5 : 4 * (t : Int) + (k : Int) < 64 := by omega
          have q5 : 0 ≤ 4 * (t : Int) + (k : Int) := by omega
          have p4 : (t : Int) < 64 := by omega
          repeat still_step
          refine wpStill_nil ?_
          rw [ref_fill]
          have hset : (wds (fill l (4 * t + k))).toArray.setIfInBounds t (.int .u32 (wd ((fill l (4 * t + k))[t]?.getD 0#32 <<< 8 ||| BitVec.ofNat 32 (l[4 * t + k]?.getD 0).toNat))) = (wds (fill l (4 * t + (k + 1)))).toArray := by
            rw [wds_set, ← Nat.add_assoc, fill, fillStep, hi]; rfl
          have Hset := Lib.hid hset
          clear hset e4 e5 t5 p5 q5 p4 hi
          go_wp2
          go_roundw
          case rel => exact ⟨k + 1, by go_num, by omega, (r0.far (by show G ≠ G + 1 + 1; omega) _).drew, (r1.far (by show G + 1 ≠ G + 1 + 1; omega) _).drew, by rw [← Hset.out]; exact (r2.set _ _).drew, Below.drew (b0.setCell (p := ⟨G + 1 + 1, t, none⟩) (by show G ≤ G + 1 + 1; omega) _)⟩
          case measure => simp [intOf]; omega
        · obtain rfl : k = 4 := by omega
          rw [show ((4 : Nat) : Int) = 4 from rfl]
          go_wp2
          go_roundw
          case rel => exact ⟨t + 1, by go_num, by omega, r0, r1, r2, b0⟩
          case measure => simp [intOf]; omega
    · obtain rfl : t = 16 := by omega
      rw [show ((16 : Nat) : Int) = 16 from rfl]
      go_wp2
      go_loopw [6] (fun i wr => ∃ k : Nat, i = .int .i64 ((k : Int) + 16) ∧ k ≤ 48 ∧ Row wr (G + 1) 77 (wds (List.replicate 64 0)).toArray ∧ Row wr (G + 1 + 1) 77 (wds (expand (fill l 64) k)).toArray ∧ Below G w wr) (fun i _ => (64 - intOf i).toNat)
      case atStart => exact ⟨0, by simp, by omega, r1, r2, b0⟩
      case round =>
        clear r0 r1 r2 b0
        obtain ⟨k, rfl, hk, r1, r2, b0⟩ := hrel
        by_cases hk48 : k < 48
        · have hl64 := expand_len _ (fill_len l 64) k
          have h16 := r2.cellv (wds_at _ k (by rw [hl64]; omega))
          have h15 := r2.cellv (wds_at _ (k + 1) (by rw [hl64]; omega))
          have h7 := r2.cellv (wds_at _ (k + 9) (by rw [hl64]; omega))
          have h2 := r2.cellv (wds_at _ (k + 14) (by rw [hl64]; omega))
          have h0 := r2.cellv (wds_at _ (k + 16) (by rw [hl64]; omega))
          have hf := r2.free (k + 16)
          clear hl64
          have e1 : IntKind.i64.wrap ((k : Int) + 16 - 15) = (k : Int) + 1 := by rw [IntKind.wrap_i64]; omega
          have e14 : IntKind.i64.wrap ((k : Int) + 16 - 2) = (k : Int) + 14 := by rw [IntKind.wrap_i64]; omega
          go_wp2
          go_quiet (fail)
          go_wp2_with (first
            | (go_at_call 43; refine (turn_any _ _ (by omega) (by omega) _).mono ?_; rintro _ _ ⟨rfl, rfl⟩)
            | (go_at_call 48; refine (shift_any _ _ (by omega) (by omega) _).mono ?_; rintro _ _ ⟨rfl, rfl⟩))
          refine region_still_tail 15 (by kernel_rfl) (by kernel_rfl) ?_
          simp only [List.take_succ_cons, List.take_zero, List.drop_succ_cons, List.drop_zero]
          have e16 : IntKind.i64.wrap (k : Int) = (k : Int) := by rw [IntKind.wrap_i64]; omega
          have e7 : IntKind.i64.wrap ((k : Int) + 16 - 7) = (k : Int) + 9 := by rw [IntKind.wrap_i64]; omega
          have t9 : ((k : Int) + 9).toNat = k + 9 := by omega
          have t16 : ((k : Int) + 16).toNat = k + 16 := by omega
          have p9 : (k : Int) + 9 < 64 := by omega
          have p0 : (k : Int) < 64 := by omega
          have q9 : 0 ≤ (k : Int) + 9 := by omega
          have q16 : 0 ≤ (k : Int) + 16 := by omega
          repeat still_step
          refine wpStill_nil ?_
          have hset := exp_set (fill l 64) k
          simp only [expOf, Nat.add_sub_cancel, show k + 16 - 15 = k + 1 from by omega, show k + 16 - 2 = k + 14 from by omega, show k + 16 - 7 = k + 9 from by omega, List.getD_eq_getElem?_getD] at hset
          have Hset := Lib.hid hset
          clear hset e16 e7 t9 p9 p0 q9 q16 e1 e14
          go_wp2
          go_roundw
          case rel => exact ⟨k + 1, by go_num, by omega, (r1.drewN _).far (by show G + 1 ≠ G + 1 + 1; omega) _, by rw [← Hset.out]; exact (r2.drewN _).set _ _, (below_drewN b0 _).setCell (p := ⟨G + 1 + 1, k + 16, none⟩) (by show G ≤ G + 1 + 1; omega) _⟩
          case measure => simp [intOf]; omega
        · obtain rfl : k = 48 := by omega
          rw [show ((48 : Nat) : Int) + 16 = 64 from rfl]
          have hsz : (wds (wordsL l)).toArray.size = 64 := wds_size _ (expand_len _ (fill_len _ _) _)
          have r2' : Row wr (G + 1 + 1) 77 (wds (wordsL l)).toArray := r2
          have Hsz := Lib.hid hsz
          clear hsz r2
          go_wp2_with (first
            | (refine wpList_load_row rfl 77 _ rfl (G + 1 + 1) rfl 77 (wds (wordsL l)).toArray (0, 0) _ r2' Try.underlying77 rfl (by rw [Hsz.out]; kernel_rfl) ?_)
            | (refine wpList_store_row rfl 77 _ _ rfl (G + 1) (wds (wordsL l)).toArray rfl rfl 77 _ r1 (by rw [Hsz.out]; kernel_rfl) (by rw [Hsz.out]; rfl) (wds_one _) ?_))
          exact bodyPost_ret (v := .agg (wds (wordsL l)).toArray) (results_cell_row Try.results41 _ _ (G + 1) 77 _ (0, 0) _ rfl (r1.setRow _) Try.underlying77 rfl (by rw [Hsz.out]; kernel_rfl)) rfl ⟨rfl, by rw [← HG.out]; exact below_setRow_ b0 (by omega) _⟩

end Go.Proofs.Ytkdcelnlhhodlaa
