/- Walks over the reference: Block. -/
import Derived.Test.YtkdcelnlhhodlaaRefB
import Derived.Test.YtkdcelnlhhodlaaShaE
import Derived.Test.YtkdcelnlhhodlaaGen
namespace Go.Proofs.Ytkdcelnlhhodlaa
open Go.RowKit Go.Deep

theorem wd_not (x : BitVec 32) : IntKind.u32.wrap (4294967295 - wd x) = wd (~~~ x) := by
  rw [IntKind.wrap_u32]; unfold wd; rw [BitVec.toNat_not]; have := x.isLt; omega
theorem wd_not' (x : BitVec 32) : (4294967295 - wd x) % 4294967296 = wd (~~~ x) := by rw [← wd_not, IntKind.wrap_u32]
theorem choose_eq (e f g : BitVec 32) : e &&& f ||| ~~~ e &&& g = g ^^^ e &&& (f ^^^ g) := by
  ext i hi
  simp only [BitVec.getElem_or, BitVec.getElem_and, BitVec.getElem_not, BitVec.getElem_xor]
  cases e[i] <;> cases f[i] <;> cases g[i] <;> rfl
theorem major_eq (a b c : BitVec 32) : a &&& b ||| a &&& c ||| b &&& c = a &&& b ^^^ a &&& c ^^^ b &&& c := by
  ext i hi
  simp only [BitVec.getElem_or, BitVec.getElem_and, BitVec.getElem_xor]
  cases a[i] <;> cases b[i] <;> cases c[i] <;> rfl

attribute [local go_sem] wd_or wd_xor wd_and wd_add wd_add' wd_not wd_not'

set_option maxHeartbeats 2000000 in
set_option maxRecDepth 100000 in
theorem refBlock_any (H : List (BitVec 32)) (hH : H.length = 8) (l : List UInt8) (hl : l.length = 64) (w : World) :
    Calls Try.prog 33 #[.agg (wds H).toArray, .agg (u8s l).toArray] w fun e w' => e = .returned (.agg (wds (blockL H l)).toArray) ∧ Below w.heap.size w w' := by
  have Hl := Lib.hid hl
  have HH := Lib.hid hH
  clear hl hH
  go_enter Try.func33, Try.ntmps33
  have r0 : Row (((w.alloc (.cells (wds H).toArray 48)).alloc (.cells (u8s l).toArray 55)).alloc (.cells #[.int .u32 0, .int .u32 0, .int .u32 0, .int .u32 0, .int .u32 0, .int .u32 0, .int .u32 0, .int .u32 0] 48)) w.heap.size 48 (wds H).toArray := ((Row.new _ _ _).alloc _).alloc _
  have r1 : Row (((w.alloc (.cells (wds H).toArray 48)).alloc (.cells (u8s l).toArray 55)).alloc (.cells #[.int .u32 0, .int .u32 0, .int .u32 0, .int .u32 0, .int .u32 0, .int .u32 0, .int .u32 0, .int .u32 0] 48)) (w.heap.size + 1) 55 (u8s l).toArray := by
    have h := (Row.new (w.alloc (.cells (wds H).toArray 48)) 55 (u8s l).toArray).alloc (.cells #[.int .u32 0, .int .u32 0, .int .u32 0, .int .u32 0, .int .u32 0, .int .u32 0, .int .u32 0, .int .u32 0] 48)
    rwa [World.size_alloc] at h
  have r2 : Row (((w.alloc (.cells (wds H).toArray 48)).alloc (.cells (u8s l).toArray 55)).alloc (.cells #[.int .u32 0, .int .u32 0, .int .u32 0, .int .u32 0, .int .u32 0, .int .u32 0, .int .u32 0, .int .u32 0] 48)) (w.heap.size + 1 + 1) 48 (wds [0, 0, 0, 0, 0, 0, 0, 0]).toArray := by
    have h := Row.new ((w.alloc (.cells (wds H).toArray 48)).alloc (.cells (u8s l).toArray 55)) 48 (wds [0, 0, 0, 0, 0, 0, 0, 0]).toArray
    rwa [World.size_alloc, World.size_alloc] at h
  have b0 : Below w.heap.size w (((w.alloc (.cells (wds H).toArray 48)).alloc (.cells (u8s l).toArray 55)).alloc (.cells #[.int .u32 0, .int .u32 0, .int .u32 0, .int .u32 0, .int .u32 0, .int .u32 0, .int .u32 0, .int .u32 0] 48)) :=
    (((Below.refl _ _).alloc (Nat.le_refl _) _).alloc (by simp) _).alloc (by simp; omega) _
  have s0 : (((w.alloc (.cells (wds H).toArray 48)).alloc (.cells (u8s l).toArray 55)).alloc (.cells #[.int .u32 0, .int .u32 0, .int .u32 0, .int .u32 0, .int .u32 0, .int .u32 0, .int .u32 0, .int .u32 0] 48)).heap.size = w.heap.size + 3 := by simp
  have Hbsz := Lib.hid (u8s_size l Hl.out)
  go_wp2_with (first
    | (refine wpList_load_row rfl 55 _ rfl (w.heap.size + 1) rfl 55 (u8s l).toArray (0, 0) _ r1 Try.underlying55 rfl (by rw [Hbsz.out]; kernel_rfl) ?_))
  generalize (((w.alloc (.cells (wds H).toArray 48)).alloc (.cells (u8s l).toArray 55)).alloc (.cells #[.int .u32 0, .int .u32 0, .int .u32 0, .int .u32 0, .int .u32 0, .int .u32 0, .int .u32 0, .int .u32 0] 48)) = w1 at r0 r1 r2 b0 s0 ⊢
  refine (refWords_any l Hl.out w1).mono ?_
  rintro e w2 ⟨rfl, bw2⟩
  replace r0 := r0.below bw2 (by omega)
  replace r2 := r2.below bw2 (by omega)
  replace b0 := b0.trans (bw2.mono (by omega))
  have s2 := bw2.size
  go_wp2_with fail
  refine (refCubes_any w2).mono ?_
  rintro e w3 ⟨rfl, bw3⟩
  replace r0 := r0.below bw3 (by omega)
  replace r2 := r2.below bw3 (by omega)
  replace b0 := b0.trans (bw3.mono (by omega))
  have s3 := bw3.size
  clear r1 bw2 bw3
  have hwl : (wordsL l).length = 64 := expand_len (fill l 64) (fill_len _ _) 48
  have Hwl := Lib.hid hwl
  clear hwl
  go_wp2_with (refine at_alloc _ rfl ?_)
  refine Stop.to ?_
  refine wpList_alloc_gen rfl 77 rfl (.agg (wds (List.replicate 64 0)).toArray) _ (by kernel_rfl) rfl (fun g4 w4 l4 r4 b4 => ?_)
  go_wp2_with (refine at_alloc _ rfl ?_)
  refine Stop.to ?_
  refine wpList_alloc_gen rfl 77 rfl (.agg (wds (List.replicate 64 0)).toArray) _ (by kernel_rfl) rfl (fun g5 w5 l5 r5 b5 => ?_)
  go_wp2_with (refine at_store _ _ _ rfl ?_)
  refine Stop.to ?_
  have t4 := r4.lt
  have t5 := r5.lt
  replace r0 := (r0.below b4 (by omega)).below b5 (by omega)
  replace r2 := (r2.below b4 (by omega)).below b5 (by omega)
  replace r4 := r4.below b5 (by omega)
  replace b0 := (b0.trans (b4.mono (by omega))).trans (b5.mono (by omega))
  have hc64 : cubeL.length = 64 := rfl
  refine wpList_store_gen rfl 77 _ _ rfl g4 (wds (wordsL l)).toArray rfl rfl 77 _ r4 (by rw [wds_size _ Hwl.out]; kernel_rfl) (by rw [wds_size _ Hwl.out]; rfl) (wds_one _) (fun w6 r6 o6 => ?_)
  replace r0 := r0.only o6 (by omega)
  replace r2 := r2.only o6 (by omega)
  replace r5 := r5.only o6 (by omega)
  replace b0 := below_only b0 o6 (by omega)
  have z6 := o6.size
  clear r4 b4 b5 o6
  go_wp2_with (refine at_store _ _ _ rfl ?_)
  refine Stop.to ?_
  refine wpList_store_gen rfl 77 _ _ rfl g5 (wds cubeL).toArray rfl rfl 77 _ r5 (by rw [wds_size _ hc64]; kernel_rfl) (by rw [wds_size _ hc64]; rfl) (wds_one _) (fun w7 r7 o7 => ?_)
  replace r0 := r0.only o7 (by omega)
  replace r2 := r2.only o7 (by omega)
  replace r6 := r6.only o7 (by omega)
  replace b0 := below_only b0 o7 (by omega)
  have z7 := o7.size
  clear r5 o7
  go_wp2_with (first
    | (refine at_alloc _ rfl ?_)
    | (refine wpList_load_row rfl 48 _ rfl w.heap.size rfl 48 (wds H).toArray (0, 0) _ r0 Try.underlying48 rfl (by rw [wds_size _ HH.out]; kernel_rfl) ?_))
  refine Stop.to ?_
  refine wpList_alloc_gen rfl 48 rfl (.agg (wds (List.replicate 8 0)).toArray) _ (by kernel_rfl) rfl (fun g8 w8 l8 r8 b8 => ?_)
  have t8 := r8.lt
  replace r0 := r0.below b8 (by omega)
  replace r2 := r2.below b8 (by omega)
  replace r6 := r6.below b8 (by omega)
  replace r7 := r7.below b8 (by omega)
  replace b0 := b0.trans (b8.mono (by omega))
  go_wp2_with (refine at_store _ _ _ rfl ?_)
  refine Stop.to ?_
  refine wpList_store_gen rfl 48 _ _ rfl g8 (wds H).toArray rfl rfl 48 _ r8 (by rw [wds_size _ HH.out]; kernel_rfl) (by rw [wds_size _ HH.out]; rfl) (wds_one _) (fun w9 r9 o9 => ?_)
  replace r0 := r0.only o9 (by omega)
  replace r2 := r2.only o9 (by omega)
  replace r6 := r6.only o9 (by omega)
  replace r7 := r7.only o9 (by omega)
  replace b0 := below_only b0 o9 (by omega)
  have z9 := o9.size
  have n1 : g4 ≠ g8 := by omega
  have n2 : g5 ≠ g8 := by omega
  have n3 : w.heap.size + 1 + 1 < g8 := by omega
  have n4 : g8 < w9.heap.size := r9.lt
  clear r8 o9 b8 l4 t4 l5 t5 z6 z7 l8 t8 z9 s0 s2 s3
  obtain ⟨G, hG⟩ : ∃ G, G = w.heap.size := ⟨_, rfl⟩
  rw [← hG] at r0 r2 b0 n3 ⊢
  have HG := Lib.hid hG
  clear hG
  have Hrl := Lib.hid (rounds_len (wordsL l) H HH.out)
  go_wp2_with fail
  clear hc64
  go_loopw [8] (fun i wr => ∃ k : Nat, i = .int .i64 (k : Int) ∧ k ≤ 64 ∧ Row wr g8 48 (wds (rounds (wordsL l) H k)).toArray ∧ Row wr g4 77 (wds (wordsL l)).toArray ∧ Row wr g5 77 (wds cubeL).toArray ∧ Row wr G 48 (wds H).toArray ∧ Row wr (G + 1 + 1) 48 (wds [0, 0, 0, 0, 0, 0, 0, 0]).toArray ∧ Below G w wr) (fun i _ => (64 - intOf i).toNat)
  case atStart => exact ⟨0, by simp, by omega, r9, r6, r7, r0, r2, b0⟩
  case round =>
    clear r9 r6 r7 r0 r2 b0
    obtain ⟨k, rfl, hk, r8, r4, r5, r0, r2, b0⟩ := hrel
    by_cases hk64 : k < 64
    · obtain ⟨a, b, c, d, e, f, g, i, heq⟩ := eight (Hrl.out k)
      rw [heq] at r8
      have Heq := Lib.hid heq
      clear heq
      have c0 := r8.cellv (i := 0) (v := .int .u32 (wd a)) rfl
      have c1 := r8.cellv (i := 1) (v := .int .u32 (wd b)) rfl
      have c2 := r8.cellv (i := 2) (v := .int .u32 (wd c)) rfl
      have c3 := r8.cellv (i := 3) (v := .int .u32 (wd d)) rfl
      have c4 := r8.cellv (i := 4) (v := .int .u32 (wd e)) rfl
      have c5 := r8.cellv (i := 5) (v := .int .u32 (wd f)) rfl
      have c6 := r8.cellv (i := 6) (v := .int .u32 (wd g)) rfl
      have c7 := r8.cellv (i := 7) (v := .int .u32 (wd i)) rfl
      have ck := r5.cellv (wds_at cubeL k (by show k < 64; omega))
      have cw := r4.cellv (wds_at (wordsL l) k (by rw [Hwl.out]; omega))
      obtain ⟨xk, hxk⟩ : ∃ x, x = cubeL.getD k 0 := ⟨_, rfl⟩
      obtain ⟨xw, hxw⟩ : ∃ x, x = (wordsL l).getD k 0 := ⟨_, rfl⟩
      rw [← hxk] at ck
      rw [← hxw] at cw
      have Hxk := Lib.hid hxk
      have Hxw := Lib.hid hxw
      clear hxk hxw
      have hk64' : (k : Int) < 64 := by omega
      go_wp2
      go_quiet (fail)
      go_wp2
      go_quiet ((go_at_call 43; exact quiet_more (turn_any _ _ (by omega) (by omega) _)))
      go_wp2
      go_quiet ((go_at_call 43; exact quiet_more (turn_any _ _ (by omega) (by omega) _)))
      go_wp2_with (refine at_store _ _ _ rfl ?_)
      refine Stop.to ?_
      have hround : [(i + (e.rotateRight 6 ^^^ e.rotateRight 11 ^^^ e.rotateRight 25) + (e &&& f ||| ~~~e &&& g) + xk + xw) + ((a.rotateRight 2 ^^^ a.rotateRight 13 ^^^ a.rotateRight 22) + (a &&& b ||| a &&& c ||| b &&& c)), a, b, c, d + (i + (e.rotateRight 6 ^^^ e.rotateRight 11 ^^^ e.rotateRight 25) + (e &&& f ||| ~~~e &&& g) + xk + xw), e, f, g] = rounds (wordsL l) H (k + 1) := by
        rw [rounds, Heq.out, roundOf, t1Of, t2Of, choose_eq, major_eq, ← Hxk.out, ← Hxw.out]
      refine wpList_store_gen rfl 48 _ _ rfl g8 (wds [(i + (e.rotateRight 6 ^^^ e.rotateRight 11 ^^^ e.rotateRight 25) + (e &&& f ||| ~~~e &&& g) + xk + xw) + ((a.rotateRight 2 ^^^ a.rotateRight 13 ^^^ a.rotateRight 22) + (a &&& b ||| a &&& c ||| b &&& c)), a, b, c, d + (i + (e.rotateRight 6 ^^^ e.rotateRight 11 ^^^ e.rotateRight 25) + (e &&& f ||| ~~~e &&& g) + xk + xw), e, f, g]).toArray rfl rfl 48 _ (r8.drewN _) (by kernel_rfl) rfl (wds_one _) (fun w10 r10 o10 => ?_)
      rw [hround] at r10
      replace r4 := (r4.drewN _).only o10 n1
      replace r5 := (r5.drewN _).only o10 n2
      replace r0 := (r0.drewN _).only o10 (by omega)
      replace r2 := (r2.drewN _).only o10 (by omega)
      replace b0 := below_only (below_drewN b0 _) o10 (by omega)
      clear hround c0 c1 c2 c3 c4 c5 c6 c7 ck cw o10 r8
      go_wp2
      go_roundw
      case rel => exact ⟨k + 1, by go_num, by omega, r10, r4, r5, r0, r2, b0⟩
      case measure => simp [intOf]; omega
    · obtain rfl : k = 64 := by omega
      clear hk64
      rw [show ((64 : Nat) : Int) = 64 from rfl]
      obtain ⟨V, hV⟩ : ∃ V, V = rounds (wordsL l) H 64 := ⟨_, rfl⟩
      have hVl : V.length = 8 := by rw [hV]; exact Hrl.out 64
      rw [← hV] at r8
      have HV := Lib.hid hV
      have HVl := Lib.hid hVl
      clear hV hVl r4 r5
      go_wp2
      go_loopw [13] (fun i wr => ∃ k : Nat, i = .int .i64 (k : Int) ∧ k ≤ 8 ∧ Row wr G 48 (wds (addTo H V k)).toArray ∧ Row wr g8 48 (wds V).toArray ∧ Row wr (G + 1 + 1) 48 (wds [0, 0, 0, 0, 0, 0, 0, 0]).toArray ∧ Below G w wr) (fun i _ => (8 - intOf i).toNat)
      case atStart => exact ⟨0, by simp, by omega, r0, r8, r2, b0⟩
      case round =>
        clear r8 r0 r2 b0
        obtain ⟨k, rfl, hk, r0, r8, r2, b0⟩ := hrel
        by_cases hk8 : k < 8
        · have c0 := r0.cellv (wds_at _ k (by rw [addTo_len _ _ HH.out]; exact hk8))
          have c1 := r8.cellv (wds_at _ k (by rw [HVl.out]; exact hk8))
          have f0 := r0.free k
          have hk8' : (k : Int) < 8 := by omega
          go_wp2
          refine region_still_tail 9 (by kernel_rfl) (by kernel_rfl) ?_
          simp only [List.take_succ_cons, List.take_zero, List.drop_succ_cons, List.drop_zero]
          repeat still_step
          refine wpStill_nil ?_
          go_wp2
          go_roundw
          case rel => exact ⟨k + 1, by go_num, by omega, by rw [← add_step]; exact (r0.set _ _).drew, (r8.far (by show g8 ≠ G; omega) _).drew, (r2.far (by show G + 1 + 1 ≠ G; omega) _).drew, (b0.setCell (p := ⟨G, k, none⟩) (Nat.le_refl _) _).drew⟩
          case measure => simp [intOf]; omega
        · obtain rfl : k = 8 := by omega
          clear hk8
          have hsz : (wds (addTo H V 8)).toArray.size = 8 := wds_size _ (addTo_len _ _ HH.out 8)
          have Hsz := Lib.hid hsz
          clear hsz
          rw [show ((8 : Nat) : Int) = 8 from rfl]
          go_wp2_with (first
            | (refine wpList_load_row rfl 48 _ rfl G rfl 48 (wds (addTo H V 8)).toArray (0, 0) _ r0 Try.underlying48 rfl (by rw [Hsz.out]; kernel_rfl) ?_)
            | (refine wpList_store_row rfl 48 _ _ rfl (G + 1 + 1) (wds (addTo H V 8)).toArray rfl rfl 48 _ r2 (by rw [Hsz.out]; kernel_rfl) (by rw [Hsz.out]; rfl) (wds_one _) ?_))
          exact bodyPost_ret (v := .agg (wds (addTo H V 8)).toArray) (results_cell_row Try.results33 _ _ (G + 1 + 1) 48 _ (0, 0) _ rfl (r2.setRow _) Try.underlying48 rfl (by rw [Hsz.out]; kernel_rfl)) rfl ⟨by rw [blockL, ← HV.out], by rw [← HG.out]; exact below_setRow_ b0 (by omega) _⟩

end Go.Proofs.Ytkdcelnlhhodlaa
