/- The walk over the law ShaBlocks. -/
import Derived.Test.YtnlffbjjndmjgaaShaW
import Derived.Test.YtnlffbjjndmjgaaRefD
import Derived.Test.YtnlffbjjndmjgaaHold
namespace Go.Proofs.Ytnlffbjjndmjgaa
open Go.RowKit Go.Deep

theorem zero_state {w : World} : (zeroValue 29).run Try.prog w = .ok (.agg (wds [0, 0, 0, 0, 0, 0, 0, 0]).toArray) w := by kernel_rfl

set_option maxHeartbeats 2000000 in
theorem shaBlocks_walk (H : List (BitVec 32)) (hH : H.length = 8) (l : List UInt8) (hl : l.length = 64) (w : World) : Calls Try.prog 4 #[.agg (wds H).toArray, .agg (u8s l).toArray] w fun e w' => e = .returned (.bool true) ∧ Below w.heap.size w w' := by
  have HH := Lib.hid hH
  have Hl := Lib.hid hl
  clear hH hl
  go_enter Try.func4, Try.ntmps4
  go_wp2_with fail
  have r0 := (Row.new w 26 (wds H).toArray).alloc (.cells (u8s l).toArray 27)
  have r1 := Row.new (w.alloc (.cells (wds H).toArray 26)) 27 (u8s l).toArray
  rw [World.size_alloc] at r1
  have b0 := ((Below.refl w.heap.size w).alloc (Nat.le_refl _) (.cells (wds H).toArray 26)).alloc (by simp) (.cells (u8s l).toArray 27)
  generalize (w.alloc (.cells (wds H).toArray 26)).alloc (.cells (u8s l).toArray 27) = w1 at r0 r1 b0 ⊢
  refine (works_any w1).mono ?_
  rintro e w2 ⟨rfl, b2⟩
  have r0 := r0.below b2 r0.lt
  have r1 := r1.below b2 r1.lt
  have b0 := b0.trans (b2.mono b0.size)
  clear b2
  have hbld : ∀ W, (Instr.build 29 #[(0, Value.agg (wds H).toArray)]).run Try.prog W = .ok (.agg (wds H).toArray) W := by
    obtain ⟨a, b, c, d, e, f, g, i, rfl⟩ := eight HH.out
    intro W; kernel_rfl
  go_wp2_with (first
    | (refine at_build 29 _ rfl ?_)
    | (refine wpList_load_row rfl 26 _ rfl w.heap.size rfl 26 (wds H).toArray (0, 0) _ r0 Try.underlying26 rfl (by rw [wds_size _ HH.out]; kernel_rfl) ?_)
    | (refine at_alloc _ rfl ?_; refine Stop.to ?_; refine wpList_alloc_gen rfl 29 rfl _ _ zero_state rfl ?_))
  refine Stop.to ?_
  refine wpList_val rfl (.agg (wds H).toArray) (run_exec_build 29 [_] rfl _ (by exact hbld _)) ?_
  go_wp2_with (refine at_alloc _ rfl ?_; refine Stop.to ?_; refine wpList_alloc_gen rfl 29 rfl _ _ zero_state rfl ?_)
  intro g3 w3 hg3 r3 b3
  have hg31 := Nat.lt_of_lt_of_le r1.lt hg3
  have r0 := r0.below b3 (Nat.lt_of_lt_of_le r0.lt hg3)
  have r1 := r1.below b3 (Nat.lt_of_lt_of_le r1.lt hg3)
  have b0 := b0.trans (b3.mono (Nat.le_trans b0.size hg3))
  clear b3
  go_wp2_with (refine at_store _ _ _ rfl ?_; refine Stop.to ?_; refine wpList_store_gen rfl 29 _ _ rfl g3 (wds H).toArray rfl rfl 29 _ r3 (by rw [wds_size _ HH.out]; kernel_rfl) (by rw [wds_size _ HH.out]; kernel_rfl) (wds_one _) ?_)
  intro w4 r4 o4
  have l1 := r1.lt
  have hg31 : w.heap.size + 1 < g3 := hg31
  have hS : (fun W => Row W w.heap.size 26 (wds H).toArray ∧ Row W (w.heap.size + 1) 27 (u8s l).toArray ∧ Row W g3 29 (wds H).toArray ∧ Below w.heap.size w W) w4 :=
    ⟨r0.only o4 (by omega), r1.only o4 (by omega), r4, below_only b0 o4 (by omega)⟩
  have hbl : (blockL H l).length = 8 := addTo_len _ _ HH.out 8
  have heq : ∀ X : List (BitVec 32), X.length = 8 → ∀ W, (Op.equalIn 10000 26 (.agg (wds X).toArray) (.agg (wds X).toArray)).run Try.prog W = .ok true W := fun X hX W =>
    (run_equalIn_words W 26 25 8 Try.underlying26 Try.underlying25 (fun _ => by kernel_rfl) X X hX hX).trans (by simp)
  have he1 := heq _ hbl
  have he2 := heq startL rfl
  clear heq
  obtain ⟨S, hSd⟩ : ∃ S, S = (fun W => Row W w.heap.size 26 (wds H).toArray ∧ Row W (w.heap.size + 1) 27 (u8s l).toArray ∧ Row W g3 29 (wds H).toArray ∧ Below w.heap.size w W) := ⟨_, rfl⟩
  have stS : St S := by rw [hSd]; infer_instance
  have s0 : ∀ W, S W → Row W w.heap.size 26 (wds H).toArray := by rw [hSd]; exact fun W h => h.1
  have s1 : ∀ W, S W → Row W (w.heap.size + 1) 27 (u8s l).toArray := by rw [hSd]; exact fun W h => h.2.1
  have s2 : ∀ W, S W → Row W g3 29 (wds H).toArray := by rw [hSd]; exact fun W h => h.2.2.1
  have s3 : ∀ W, S W → Below w.heap.size w W := by rw [hSd]; exact fun W h => h.2.2.2
  rw [← hSd] at hS
  clear o4 r3 r0 r1 r4 b0 hSd
  go_wp2_with fail
  refine region_hold S (by kernel_rfl) (by kernel_rfl) (St.drew hS) ?_
  (refine hold_value rfl ?_ (fun W hW => ?_) ?_; rotate_left; (focus (go_simp; exact rfl)); simp only [Act.put, List.setIfInBounds_toArray, List.set_cons_zero, List.set_cons_succ])
  (refine hold_value rfl ?_ (fun W hW => ?_) ?_; rotate_left; (focus (go_simp; exact rfl)); simp only [Act.put, List.setIfInBounds_toArray, List.set_cons_zero, List.set_cons_succ])
  (refine hold_load_row rfl 29 _ rfl (g3) rfl 29 _ _ s2 Try.underlying29 rfl (by rw [wds_size _ HH.out]; kernel_rfl) ?_; simp only [Act.put, List.setIfInBounds_toArray, List.set_cons_zero, List.set_cons_succ])
  (refine hold_load_row rfl 27 _ rfl (w.heap.size + 1) rfl 27 _ _ s1 Try.underlying27 rfl (by rw [u8s_size _ Hl.out]; kernel_rfl) ?_; simp only [Act.put, List.setIfInBounds_toArray, List.set_cons_zero, List.set_cons_succ])
  (refine hold_call_new rfl 14 _ (fun W => by go_simp) _ (fun W hW => block_any H HH.out l Hl.out W) ?_; simp only [Act.put, List.setIfInBounds_toArray, List.set_cons_zero, List.set_cons_succ])
  refine hold_value rfl _ (fun W _ => run_exec_field rfl _ (by exact state_field (blockL H l) hbl W)) ?_
  simp only [Act.put, List.setIfInBounds_toArray, List.set_cons_zero, List.set_cons_succ]
  (refine hold_load_row rfl 26 _ rfl (w.heap.size) rfl 26 _ _ s0 Try.underlying26 rfl (by rw [wds_size _ HH.out]; kernel_rfl) ?_; simp only [Act.put, List.setIfInBounds_toArray, List.set_cons_zero, List.set_cons_succ])
  (refine hold_load_row rfl 27 _ rfl (w.heap.size + 1) rfl 27 _ _ s1 Try.underlying27 rfl (by rw [u8s_size _ Hl.out]; kernel_rfl) ?_; simp only [Act.put, List.setIfInBounds_toArray, List.set_cons_zero, List.set_cons_succ])
  (refine hold_call_new rfl 15 _ (fun W => by go_simp) _ (fun W hW => refBlock_any H HH.out l Hl.out W) ?_; simp only [Act.put, List.setIfInBounds_toArray, List.set_cons_zero, List.set_cons_succ])
  iterate 3 (refine hold_value rfl ?_ (fun W hW => ?_) ?_; rotate_left; (focus (go_simp; exact rfl)); simp only [Act.put, List.setIfInBounds_toArray, List.set_cons_zero, List.set_cons_succ])
  (refine hold_load_row rfl 29 _ rfl (g3) rfl 29 _ _ s2 Try.underlying29 rfl (by rw [wds_size _ HH.out]; kernel_rfl) ?_; simp only [Act.put, List.setIfInBounds_toArray, List.set_cons_zero, List.set_cons_succ])
  (refine hold_call_new rfl 16 _ (fun W => by go_simp) _ (fun W hW => bytes_any H HH.out W) ?_; simp only [Act.put, List.setIfInBounds_toArray, List.set_cons_zero, List.set_cons_succ])
  (refine hold_load_row rfl 26 _ rfl (w.heap.size) rfl 26 _ _ s0 Try.underlying26 rfl (by rw [wds_size _ HH.out]; kernel_rfl) ?_; simp only [Act.put, List.setIfInBounds_toArray, List.set_cons_zero, List.set_cons_succ])
  (refine hold_call_new rfl 17 _ (fun W => by go_simp) _ (fun W hW => refBytes_any H HH.out W) ?_; simp only [Act.put, List.setIfInBounds_toArray, List.set_cons_zero, List.set_cons_succ])
  iterate 3 (refine hold_value rfl ?_ (fun W hW => ?_) ?_; rotate_left; (focus (go_simp; exact rfl)); simp only [Act.put, List.setIfInBounds_toArray, List.set_cons_zero, List.set_cons_succ])
  (refine hold_call_new rfl 18 _ (fun W => by go_simp) _ (fun W hW => start_any W) ?_; simp only [Act.put, List.setIfInBounds_toArray, List.set_cons_zero, List.set_cons_succ])
  refine hold_value rfl _ (fun W _ => run_exec_field rfl _ (by exact state_field startL rfl W)) ?_
  simp only [Act.put, List.setIfInBounds_toArray, List.set_cons_zero, List.set_cons_succ]
  (refine hold_call_new rfl 19 _ (fun W => by go_simp) _ (fun W hW => refStart_any W) ?_; simp only [Act.put, List.setIfInBounds_toArray, List.set_cons_zero, List.set_cons_succ])
  iterate 3 (refine hold_value rfl ?_ (fun W hW => ?_) ?_; rotate_left; (focus (go_simp; exact rfl)); simp only [Act.put, List.setIfInBounds_toArray, List.set_cons_zero, List.set_cons_succ])
  refine wpHold_nil fun W hW => ?_
  have hb := s3 W hW
  clear he1 he2 s0 s1 s2 s3
  go_wp2
  go_ret
  exact ⟨rfl, hb⟩

end Go.Proofs.Ytnlffbjjndmjgaa
