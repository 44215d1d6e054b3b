/- The walk over the law 17's works. Conditions: stated in each theorem. -/
import Derived.Test.YtlglilmgklipdaaWkN
import Derived.Test.YtlglilmgklipdaaDrR
namespace Go.Proofs.Ytlglilmgklipdaa
set_option linter.unusedVariables false
open Go.RowKit Go.Deep

set_option maxRecDepth 100000 in
set_option maxHeartbeats 16000000 in
theorem works17_any (w : World) : Calls Try.prog 21 #[] w fun e w' => e = .returned (.bool true) ∧ Below w.heap.size w w' := by
  go_enter Try.func21, Try.ntmps21
  obtain ⟨S0, hSd⟩ : ∃ S : World → Prop, S = (fun W => Below w.heap.size w W) := ⟨_, rfl⟩
  have st0 : St S0 := by rw [hSd]; infer_instance
  have F_low : Hid (∀ W, S0 W → Below w.heap.size w W) := by show ∀ W, _; rw [hSd]; exact fun W h => h
  have HS0 : Hid (S0 w) := by show S0 w; rw [hSd]; exact Below.refl _ _
  clear hSd
  go_wp2_with (refine at_slice _ _ _ rfl ?_)
  refine Stop.to ?_
  refine wpList_slice_gen rfl 22 1 _ rfl 3 (ints [0]).toArray (bs_run Try.underlying22 info_i (by decide) (by decide) (by kernel_rfl)) ?_
  intro G_1 w_2 hG rG bG
  have hprev := st0.go HS0.out (bG.mono hG)
  obtain ⟨S1, hSd⟩ : ∃ S : World → Prop, S = (fun W => S0 W ∧ Row W G_1 3 (ints [0]).toArray) := ⟨_, rfl⟩
  have st1 : St S1 := by rw [hSd]; infer_instance
  have D1 : Hid (∀ W, S1 W → S0 W) := by show ∀ W, _; rw [hSd]; exact fun W h => h.1
  have F_v1 : Hid (∀ W, S1 W → Row W G_1 3 (ints [0]).toArray) := by show ∀ W, _; rw [hSd]; exact fun W h => h.2
  have HS1 : Hid (S1 w_2) := by show S1 w_2; rw [hSd]; exact ⟨hprev, rG⟩
  clear hSd
  clear hprev HS0 hG rG bG
  go_wp2_with (refine at_slice _ _ _ rfl ?_)
  refine Stop.to ?_
  refine wpList_slice_gen rfl 23 5 _ rfl 44 (bodyW.flatMap Nd.cells).toArray (bs_run Try.underlying23 info_n (by decide) (by decide) (by kernel_rfl)) ?_
  intro G_3 w_4 hG rG bG
  have hprev := st1.go HS1.out (bG.mono hG)
  obtain ⟨S2, hSd⟩ : ∃ S : World → Prop, S = (fun W => S1 W ∧ Row W G_3 44 (bodyW.flatMap Nd.cells).toArray) := ⟨_, rfl⟩
  have st2 : St S2 := by rw [hSd]; infer_instance
  have D2 : Hid (∀ W, S2 W → S1 W) := by show ∀ W, _; rw [hSd]; exact fun W h => h.1
  have F_n1 : Hid (∀ W, S2 W → Row W G_3 44 (bodyW.flatMap Nd.cells).toArray) := by show ∀ W, _; rw [hSd]; exact fun W h => h.2
  have HS2 : Hid (S2 w_4) := by show S2 w_4; rw [hSd]; exact ⟨hprev, rG⟩
  clear hSd
  clear hprev HS1 hG rG bG
  have hok := pW_ok (F_v1.out _ (D2.out _ HS2.out)) (F_n1.out _ HS2.out)
  go_wp2_with (refine at_alloc _ rfl ?_)
  refine Stop.to ?_
  refine wpList_alloc_gen rfl 25 rfl _ _ zero_prog rfl ?_
  intro G_6 w_7 hG rG bG
  go_wp2_with (refine at_store _ _ _ rfl ?_)
  refine Stop.to ?_
  refine wpList_store_gen rfl 25 _ _ rfl G_6 (pW G_1 G_3).cells rfl rfl 25 _ rG (by kernel_rfl) rfl (prog_one _) ?_
  intro w_8 rH oH
  have bH : Below (w_4).heap.size w_4 w_8 := (bG.mono hG).trans (oH.below hG)
  have hprev := st2.go HS2.out (bH)
  obtain ⟨S3, hSd⟩ : ∃ S : World → Prop, S = (fun W => S2 W ∧ Row W G_6 25 (pW G_1 G_3).cells) := ⟨_, rfl⟩
  have st3 : St S3 := by rw [hSd]; infer_instance
  have D3 : Hid (∀ W, S3 W → S2 W) := by show ∀ W, _; rw [hSd]; exact fun W h => h.1
  have F_P1 : Hid (∀ W, S3 W → Row W G_6 25 (pW G_1 G_3).cells) := by show ∀ W, _; rw [hSd]; exact fun W h => h.2
  have HS3 : Hid (S3 w_8) := by show S3 w_8; rw [hSd]; exact ⟨hprev, rH⟩
  clear hSd
  clear hprev HS2 hG rG bG rH oH bH
  clear hok
  have hokAll : Hid (∀ W, S3 W → (pW G_1 G_3).ok W) := by show ∀ W, _; exact fun W hW => pW_ok (F_v1.out _ (D2.out _ (D3.out _ hW))) (F_n1.out _ (D3.out _ hW))
  have F_ok1 := hokAll
  clear hokAll
  go_wp2_with (first | (refine wpList_load_row rfl 25 _ rfl G_6 rfl 25 (pW G_1 G_3).cells (0, 0) _ (F_P1.out _ HS3.out) Try.underlying25 rfl (by kernel_rfl) ?_) | (refine at_slice _ _ _ rfl ?_))
  refine Stop.to ?_
  refine wpList_slice_gen rfl 22 1 _ rfl 3 (ints [4]).toArray (bs_run Try.underlying22 info_i (by decide) (by decide) (by kernel_rfl)) ?_
  intro G_9 w_10 hG rG bG
  have hprev := st3.go HS3.out (bG.mono hG)
  obtain ⟨S4, hSd⟩ : ∃ S : World → Prop, S = (fun W => S3 W ∧ Row W G_9 3 (ints [4]).toArray) := ⟨_, rfl⟩
  have st4 : St S4 := by rw [hSd]; infer_instance
  have D4 : Hid (∀ W, S4 W → S3 W) := by show ∀ W, _; rw [hSd]; exact fun W h => h.1
  have F_a_r : Hid (∀ W, S4 W → Row W G_9 3 (ints [4]).toArray) := by show ∀ W, _; rw [hSd]; exact fun W h => h.2
  have HS4 : Hid (S4 w_10) := by show S4 w_10; rw [hSd]; exact ⟨hprev, rG⟩
  clear hSd
  clear hprev HS3 hG rG bG
  go_wp2_with fail
  refine (dRunA (pW G_1 G_3) (some ⟨G_9, 0, none⟩) 1 [4] 5 w_10 (by show 5 ≤ 1000; omega) (by decide) (F_ok1.out _ (D4.out _ HS4.out)) (rd_row (F_a_r.out _ HS4.out)) (by simp [InI])).mono ?_
  rintro e w_11 ⟨A_r, cap_r, rfl, hrd, _, _, _, bb⟩
  rw [runW5 (F_ok1.out _ (D4.out _ HS4.out))] at hrd ⊢
  rw [show checkZ (pW G_1 G_3) (List.length ([4] : List Int)) 5 = 0 from by first | (rw [checkW]; done) | (rw [checkW]; rfl)]
  have hprev := st4.go HS4.out (bb)
  replace HS4 := Lib.hid hprev
  clear hprev bb hrd
  go_wp2_with (refine at_alloc _ rfl ?_)
  refine Stop.to ?_
  refine wpList_alloc_gen rfl 32 rfl _ _ zero_run2 rfl ?_
  intro G_12 w_13 hG rG bG
  go_wp2_with (refine at_store _ _ _ rfl ?_)
  refine Stop.to ?_
  refine wpList_store_gen rfl 32 _ _ rfl G_12 #[.int .i64 0, .int .i64 5, .int .i64 5, .slice A_r 0 cap_r] rfl rfl 32 _ rG (by kernel_rfl) rfl (run_one _ _ _ rfl) ?_
  intro w_14 rH oH
  have bH : Below (w_11).heap.size w_11 w_14 := (bG.mono hG).trans (oH.below hG)
  have hprev := st4.go HS4.out (bH)
  obtain ⟨S5, hSd⟩ : ∃ S : World → Prop, S = (fun W => S4 W ∧ Row W G_12 32 #[.int .i64 0, .int .i64 5, .int .i64 5, .slice A_r 0 cap_r]) := ⟨_, rfl⟩
  have st5 : St S5 := by rw [hSd]; infer_instance
  have D5 : Hid (∀ W, S5 W → S4 W) := by show ∀ W, _; rw [hSd]; exact fun W h => h.1
  have F_r : Hid (∀ W, S5 W → Row W G_12 32 #[.int .i64 0, .int .i64 5, .int .i64 5, .slice A_r 0 cap_r]) := by show ∀ W, _; rw [hSd]; exact fun W h => h.2
  have HS5 : Hid (S5 w_14) := by show S5 w_14; rw [hSd]; exact ⟨hprev, rH⟩
  clear hSd
  clear hprev HS4 hG rG bG rH oH bH
  go_wp2_with (refine wpList_load_row rfl 25 _ rfl G_6 rfl 25 (pW G_1 G_3).cells (0, 0) _ (F_P1.out _ (D4.out _ (D5.out _ HS5.out))) Try.underlying25 rfl (by kernel_rfl) ?_)
  refine (dRunA (pW G_1 G_3) none 0 [] 4 w_14 (by show 5 ≤ 1000; omega) (by decide) (F_ok1.out _ (D4.out _ (D5.out _ HS5.out))) (Rd.nil _ _) (by simp)).mono ?_
  rintro e w_15 ⟨A_g, cap_g, rfl, hrd, _, _, _, bb⟩
  rw [runWn] at hrd ⊢
  rw [show checkZ (pW G_1 G_3) (List.length ([] : List Int)) 4 = 18 from by first | (rw [checkW]; done) | (rw [checkW]; rfl)]
  have hprev := st5.go HS5.out (bb)
  replace HS5 := Lib.hid hprev
  clear hprev bb hrd
  go_wp2_with (refine at_alloc _ rfl ?_)
  refine Stop.to ?_
  refine wpList_alloc_gen rfl 32 rfl _ _ zero_run2 rfl ?_
  intro G_16 w_17 hG rG bG
  go_wp2_with (refine at_store _ _ _ rfl ?_)
  refine Stop.to ?_
  refine wpList_store_gen rfl 32 _ _ rfl G_16 #[.int .i64 0, .int .i64 0, .int .i64 0, .slice A_g 0 cap_g] rfl rfl 32 _ rG (by kernel_rfl) rfl (run_one _ _ _ rfl) ?_
  intro w_18 rH oH
  have bH : Below (w_15).heap.size w_15 w_18 := (bG.mono hG).trans (oH.below hG)
  have hprev := st5.go HS5.out (bH)
  obtain ⟨S6, hSd⟩ : ∃ S : World → Prop, S = (fun W => S5 W ∧ Row W G_16 32 #[.int .i64 0, .int .i64 0, .int .i64 0, .slice A_g 0 cap_g]) := ⟨_, rfl⟩
  have st6 : St S6 := by rw [hSd]; infer_instance
  have D6 : Hid (∀ W, S6 W → S5 W) := by show ∀ W, _; rw [hSd]; exact fun W h => h.1
  have F_g : Hid (∀ W, S6 W → Row W G_16 32 #[.int .i64 0, .int .i64 0, .int .i64 0, .slice A_g 0 cap_g]) := by show ∀ W, _; rw [hSd]; exact fun W h => h.2
  have HS6 : Hid (S6 w_18) := by show S6 w_18; rw [hSd]; exact ⟨hprev, rH⟩
  clear hSd
  clear hprev HS5 hG rG bG rH oH bH
  go_wp2_with (refine at_load 29 _ rfl ?_)
  refine Stop.to ?_
  refine wpList_holdN S6 3 HS6.out ?_
  simp only [List.take_succ_cons, List.take_zero, List.drop_succ_cons, List.drop_zero]
  (refine hold_load_at rfl 29 _ rfl (⟨G_12, 0, none⟩) rfl (outC 0 5) _ (fun W hW => out_cells (r := ⟨0, 5, 5, A_r, cap_r, []⟩) (F_r.out _ (D6.out _ hW))) Try.underlying29 rfl (by kernel_rfl) ?_; simp only [Act.put, List.setIfInBounds_toArray, List.set_cons_zero, List.set_cons_succ])
  (refine hold_value rfl ?_ (fun W hW => ?_) ?_; rotate_left; (focus (go_simp; exact rfl)); simp only [Act.put, List.setIfInBounds_toArray, List.set_cons_zero, List.set_cons_succ])
  refine hold_value rfl (.bool true) (fun W _ => run_exec_binop rfl _ (run_eqGuard_agg _ _ _ _ _ _ _ (by kernel_rfl)) (by exact (eql_outcome 0 5 0 5) W)) ?_
  simp only [Act.put, List.setIfInBounds_toArray, List.set_cons_zero, List.set_cons_succ]
  refine wpHold_nil fun W9 hW9 => ?_
  have HT6 := Lib.hid hW9
  clear HS6 hW9
  have HS6 := HT6
  clear HT6
  have r2 := (F_r.out _ (D6.out _ HS6.out)).cellv (i := 2) (v := .int .i64 5) rfl
  go_wp2_with (first | (refine wpList_load_rowG rfl 25 _ rfl G_6 rfl 25 (pW G_1 G_3).cells (0, 0) _ (F_P1.out _ (D4.out _ (D5.out _ (D6.out _ HS6.out)))) Try.underlying25 rfl (by kernel_rfl) ?_) | (refine at_slice _ _ _ rfl ?_))
  refine Stop.to ?_
  refine wpList_slice_gen rfl 22 1 _ rfl 3 (ints [4]).toArray (bs_run Try.underlying22 info_i (by decide) (by decide) (by kernel_rfl)) ?_
  intro G_19 w_20 hG rG bG
  have hprev := st6.go HS6.out (bG.mono hG)
  obtain ⟨S7, hSd⟩ : ∃ S : World → Prop, S = (fun W => S6 W ∧ Row W G_19 3 (ints [4]).toArray) := ⟨_, rfl⟩
  have st7 : St S7 := by rw [hSd]; infer_instance
  have D7 : Hid (∀ W, S7 W → S6 W) := by show ∀ W, _; rw [hSd]; exact fun W h => h.1
  have F_b0 : Hid (∀ W, S7 W → Row W G_19 3 (ints [4]).toArray) := by show ∀ W, _; rw [hSd]; exact fun W h => h.2
  have HS7 : Hid (S7 w_20) := by show S7 w_20; rw [hSd]; exact ⟨hprev, rG⟩
  clear hSd
  clear hprev HS6 hG rG bG
  clear r2
  go_wp2_with fail
  refine (dOut_any (pW G_1 G_3) (some ⟨G_19, 0, none⟩) 1 [4] 4 w_20 (by show 5 ≤ 1000; omega) (by decide) (F_ok1.out _ (D4.out _ (D5.out _ (D6.out _ (D7.out _ HS7.out))))) (rd_row (F_b0.out _ HS7.out)) (by simp [InI])).mono ?_
  rintro e w_21 ⟨rfl, bb⟩
  rw [runW4 (F_ok1.out _ (D4.out _ (D5.out _ (D6.out _ (D7.out _ HS7.out))))), show outV ⟨[4], [[]], 0, 4, [], some (4, 0)⟩ = .agg (outC 4 0).toArray from rfl]
  have hprev := st7.go HS7.out (bb)
  replace HS7 := Lib.hid hprev
  clear hprev bb
  go_wp2_with (refine at_build 29 _ rfl ?_)
  refine Stop.to ?_
  refine wpList_holdN S7 2 HS7.out ?_
  simp only [List.take_succ_cons, List.take_zero, List.drop_succ_cons, List.drop_zero]
  (refine hold_value rfl ?_ (fun W hW => ?_) ?_; rotate_left; (focus (go_simp; exact rfl)); simp only [Act.put, List.setIfInBounds_toArray, List.set_cons_zero, List.set_cons_succ])
  refine hold_value rfl (.bool true) (fun W _ => run_exec_binop rfl _ (run_eqGuard_agg _ _ _ _ _ _ _ (by kernel_rfl)) (by exact (eql_outcome 4 0 4 0) W)) ?_
  simp only [Act.put, List.setIfInBounds_toArray, List.set_cons_zero, List.set_cons_succ]
  refine wpHold_nil fun W9 hW9 => ?_
  have HT7 := Lib.hid hW9
  clear HS7 hW9
  have HS7 := HT7
  clear HT7
  go_wp2_with (refine wpList_load_rowG rfl 25 _ rfl G_6 rfl 25 (pW G_1 G_3).cells (0, 0) _ (F_P1.out _ (D4.out _ (D5.out _ (D6.out _ (D7.out _ HS7.out))))) Try.underlying25 rfl (by kernel_rfl) ?_)
  refine (dOut_any (pW G_1 G_3) none 0 [] 4 W9 (by show 5 ≤ 1000; omega) (by decide) (F_ok1.out _ (D4.out _ (D5.out _ (D6.out _ (D7.out _ HS7.out))))) (Rd.nil _ _) (by simp)).mono ?_
  rintro e w_22 ⟨rfl, bb⟩
  rw [runWn, show outV zeroS = .agg (outC 0 0).toArray from rfl]
  have hprev := st7.go HS7.out (bb)
  replace HS7 := Lib.hid hprev
  clear hprev bb
  go_wp2_with (refine at_build 29 _ rfl ?_)
  refine Stop.to ?_
  refine wpList_holdN S7 2 HS7.out ?_
  simp only [List.take_succ_cons, List.take_zero, List.drop_succ_cons, List.drop_zero]
  (refine hold_value rfl ?_ (fun W hW => ?_) ?_; rotate_left; (focus (go_simp; exact rfl)); simp only [Act.put, List.setIfInBounds_toArray, List.set_cons_zero, List.set_cons_succ])
  refine hold_value rfl (.bool true) (fun W _ => run_exec_binop rfl _ (run_eqGuard_agg _ _ _ _ _ _ _ (by kernel_rfl)) (by exact (eql_outcome 0 0 0 0) W)) ?_
  simp only [Act.put, List.setIfInBounds_toArray, List.set_cons_zero, List.set_cons_succ]
  refine wpHold_nil fun W9 hW9 => ?_
  have HT7 := Lib.hid hW9
  clear HS7 hW9
  have HS7 := HT7
  clear HT7
  go_wp2_with fail
  go_ret
  exact ⟨rfl, (F_low.out _ (D1.out _ (D2.out _ (D3.out _ (D4.out _ (D5.out _ (D6.out _ (D7.out _ HS7.out))))))))⟩
end Go.Proofs.Ytlglilmgklipdaa
