/- The walk over the law 16's works. Conditions: stated in each theorem. -/
import Derived.Test.YtlglilmgklipdaaWkN
namespace Go.Proofs.Ytlglilmgklipdaa
set_option linter.unusedVariables false
open Go.RowKit Go.Deep

set_option maxRecDepth 100000 in
set_option maxHeartbeats 16000000 in
theorem works16_any (w : World) : Calls Try.prog 13 #[] w fun e w' => e = .returned (.bool true) ∧ Below w.heap.size w w' := by
  go_enter Try.func13, Try.ntmps13
  obtain ⟨S0, hSd⟩ : ∃ S : World → Prop, S = (fun W => Below w.heap.size w W) := ⟨_, rfl⟩
  have st0 : St S0 := by rw [hSd]; infer_instance
  have F_low : Hid (∀ W, S0 W → Below w.heap.size w W) := by show ∀ W, _; rw [hSd]; exact fun W h => h
  have HS0 : Hid (S0 w) := by show S0 w; rw [hSd]; exact Below.refl _ _
  clear hSd
  go_wp2_with (refine at_slice _ _ _ rfl ?_)
  refine Stop.to ?_
  refine wpList_slice_gen rfl 22 1 _ rfl 3 (ints [0]).toArray (bs_run Try.underlying22 info_i (by decide) (by decide) (by kernel_rfl)) ?_
  intro G_1 w_2 hG rG bG
  have hprev := st0.go HS0.out (bG.mono hG)
  obtain ⟨S1, hSd⟩ : ∃ S : World → Prop, S = (fun W => S0 W ∧ Row W G_1 3 (ints [0]).toArray) := ⟨_, rfl⟩
  have st1 : St S1 := by rw [hSd]; infer_instance
  have D1 : Hid (∀ W, S1 W → S0 W) := by show ∀ W, _; rw [hSd]; exact fun W h => h.1
  have F_v1 : Hid (∀ W, S1 W → Row W G_1 3 (ints [0]).toArray) := by show ∀ W, _; rw [hSd]; exact fun W h => h.2
  have HS1 : Hid (S1 w_2) := by show S1 w_2; rw [hSd]; exact ⟨hprev, rG⟩
  clear hSd
  clear hprev HS0 hG rG bG
  go_wp2_with (refine at_slice _ _ _ rfl ?_)
  refine Stop.to ?_
  refine wpList_slice_gen rfl 23 5 _ rfl 44 (bodyW.flatMap Nd.cells).toArray (bs_run Try.underlying23 info_n (by decide) (by decide) (by kernel_rfl)) ?_
  intro G_3 w_4 hG rG bG
  have hprev := st1.go HS1.out (bG.mono hG)
  obtain ⟨S2, hSd⟩ : ∃ S : World → Prop, S = (fun W => S1 W ∧ Row W G_3 44 (bodyW.flatMap Nd.cells).toArray) := ⟨_, rfl⟩
  have st2 : St S2 := by rw [hSd]; infer_instance
  have D2 : Hid (∀ W, S2 W → S1 W) := by show ∀ W, _; rw [hSd]; exact fun W h => h.1
  have F_n1 : Hid (∀ W, S2 W → Row W G_3 44 (bodyW.flatMap Nd.cells).toArray) := by show ∀ W, _; rw [hSd]; exact fun W h => h.2
  have HS2 : Hid (S2 w_4) := by show S2 w_4; rw [hSd]; exact ⟨hprev, rG⟩
  clear hSd
  clear hprev HS1 hG rG bG
  have hok := pW_ok (F_v1.out _ (D2.out _ HS2.out)) (F_n1.out _ HS2.out)
  go_wp2_with (refine at_alloc _ rfl ?_)
  refine Stop.to ?_
  refine wpList_alloc_gen rfl 25 rfl _ _ zero_prog rfl ?_
  intro G_6 w_7 hG rG bG
  go_wp2_with (refine at_store _ _ _ rfl ?_)
  refine Stop.to ?_
  refine wpList_store_gen rfl 25 _ _ rfl G_6 (pW G_1 G_3).cells rfl rfl 25 _ rG (by kernel_rfl) rfl (prog_one _) ?_
  intro w_8 rH oH
  have bH : Below (w_4).heap.size w_4 w_8 := (bG.mono hG).trans (oH.below hG)
  have hprev := st2.go HS2.out (bH)
  obtain ⟨S3, hSd⟩ : ∃ S : World → Prop, S = (fun W => S2 W ∧ Row W G_6 25 (pW G_1 G_3).cells) := ⟨_, rfl⟩
  have st3 : St S3 := by rw [hSd]; infer_instance
  have D3 : Hid (∀ W, S3 W → S2 W) := by show ∀ W, _; rw [hSd]; exact fun W h => h.1
  have F_P1 : Hid (∀ W, S3 W → Row W G_6 25 (pW G_1 G_3).cells) := by show ∀ W, _; rw [hSd]; exact fun W h => h.2
  have HS3 : Hid (S3 w_8) := by show S3 w_8; rw [hSd]; exact ⟨hprev, rH⟩
  clear hSd
  clear hprev HS2 hG rG bG rH oH bH
  clear hok
  have hokAll : Hid (∀ W, S3 W → (pW G_1 G_3).ok W) := by show ∀ W, _; exact fun W hW => pW_ok (F_v1.out _ (D2.out _ (D3.out _ hW))) (F_n1.out _ (D3.out _ hW))
  have F_ok1 := hokAll
  clear hokAll
  go_wp2_with (first | (refine wpList_load_row rfl 25 _ rfl G_6 rfl 25 (pW G_1 G_3).cells (0, 0) _ (F_P1.out _ HS3.out) Try.underlying25 rfl (by kernel_rfl) ?_) | (refine at_slice _ _ _ rfl ?_))
  refine Stop.to ?_
  refine wpList_slice_gen rfl 22 1 _ rfl 3 (ints [4]).toArray (bs_run Try.underlying22 info_i (by decide) (by decide) (by kernel_rfl)) ?_
  intro G_9 w_10 hG rG bG
  have hprev := st3.go HS3.out (bG.mono hG)
  obtain ⟨S4, hSd⟩ : ∃ S : World → Prop, S = (fun W => S3 W ∧ Row W G_9 3 (ints [4]).toArray) := ⟨_, rfl⟩
  have st4 : St S4 := by rw [hSd]; infer_instance
  have D4 : Hid (∀ W, S4 W → S3 W) := by show ∀ W, _; rw [hSd]; exact fun W h => h.1
  have F_a_r : Hid (∀ W, S4 W → Row W G_9 3 (ints [4]).toArray) := by show ∀ W, _; rw [hSd]; exact fun W h => h.2
  have HS4 : Hid (S4 w_10) := by show S4 w_10; rw [hSd]; exact ⟨hprev, rG⟩
  clear hSd
  clear hprev HS3 hG rG bG
  go_wp2_with fail
  refine (mRunA (pW G_1 G_3) (some ⟨G_9, 0, none⟩) 1 [4] 5 w_10 (by show 5 ≤ 1000; omega) (by decide) (F_ok1.out _ (D4.out _ HS4.out)) (rd_row (F_a_r.out _ HS4.out)) (by simp [InI])).mono ?_
  rintro e w_11 ⟨A_r, cap_r, rfl, hrd, _, _, _, bb⟩
  rw [runW5 (F_ok1.out _ (D4.out _ HS4.out))] at hrd ⊢
  rw [show checkZ (pW G_1 G_3) (List.length ([4] : List Int)) 5 = 0 from by first | (rw [checkW]; done) | (rw [checkW]; rfl)]
  have hprev := st4.go HS4.out (bb)
  replace HS4 := Lib.hid hprev
  clear hprev bb hrd
  go_wp2_with (refine at_alloc _ rfl ?_)
  refine Stop.to ?_
  refine wpList_alloc_gen rfl 32 rfl _ _ zero_run2 rfl ?_
  intro G_12 w_13 hG rG bG
  go_wp2_with (refine at_store _ _ _ rfl ?_)
  refine Stop.to ?_
  refine wpList_store_gen rfl 32 _ _ rfl G_12 #[.int .i64 0, .int .i64 5, .int .i64 5, .slice A_r 0 cap_r] rfl rfl 32 _ rG (by kernel_rfl) rfl (run_one _ _ _ rfl) ?_
  intro w_14 rH oH
  have bH : Below (w_11).heap.size w_11 w_14 := (bG.mono hG).trans (oH.below hG)
  have hprev := st4.go HS4.out (bH)
  obtain ⟨S5, hSd⟩ : ∃ S : World → Prop, S = (fun W => S4 W ∧ Row W G_12 32 #[.int .i64 0, .int .i64 5, .int .i64 5, .slice A_r 0 cap_r]) := ⟨_, rfl⟩
  have st5 : St S5 := by rw [hSd]; infer_instance
  have D5 : Hid (∀ W, S5 W → S4 W) := by show ∀ W, _; rw [hSd]; exact fun W h => h.1
  have F_r : Hid (∀ W, S5 W → Row W G_12 32 #[.int .i64 0, .int .i64 5, .int .i64 5, .slice A_r 0 cap_r]) := by show ∀ W, _; rw [hSd]; exact fun W h => h.2
  have HS5 : Hid (S5 w_14) := by show S5 w_14; rw [hSd]; exact ⟨hprev, rH⟩
  clear hSd
  clear hprev HS4 hG rG bG rH oH bH
  go_wp2_with (first | (refine wpList_load_row rfl 25 _ rfl G_6 rfl 25 (pW G_1 G_3).cells (0, 0) _ (F_P1.out _ (D4.out _ (D5.out _ HS5.out))) Try.underlying25 rfl (by kernel_rfl) ?_) | (refine at_slice _ _ _ rfl ?_))
  refine Stop.to ?_
  refine wpList_slice_gen rfl 22 1 _ rfl 3 (ints [4]).toArray (bs_run Try.underlying22 info_i (by decide) (by decide) (by kernel_rfl)) ?_
  intro G_15 w_16 hG rG bG
  have hprev := st5.go HS5.out (bG.mono hG)
  obtain ⟨S6, hSd⟩ : ∃ S : World → Prop, S = (fun W => S5 W ∧ Row W G_15 3 (ints [4]).toArray) := ⟨_, rfl⟩
  have st6 : St S6 := by rw [hSd]; infer_instance
  have D6 : Hid (∀ W, S6 W → S5 W) := by show ∀ W, _; rw [hSd]; exact fun W h => h.1
  have F_a_q : Hid (∀ W, S6 W → Row W G_15 3 (ints [4]).toArray) := by show ∀ W, _; rw [hSd]; exact fun W h => h.2
  have HS6 : Hid (S6 w_16) := by show S6 w_16; rw [hSd]; exact ⟨hprev, rG⟩
  clear hSd
  clear hprev HS5 hG rG bG
  go_wp2_with fail
  refine (mRunA (pW G_1 G_3) (some ⟨G_15, 0, none⟩) 1 [4] 4 w_16 (by show 5 ≤ 1000; omega) (by decide) (F_ok1.out _ (D4.out _ (D5.out _ (D6.out _ HS6.out)))) (rd_row (F_a_q.out _ HS6.out)) (by simp [InI])).mono ?_
  rintro e w_17 ⟨A_q, cap_q, rfl, hrd, _, _, _, bb⟩
  rw [runW4 (F_ok1.out _ (D4.out _ (D5.out _ (D6.out _ HS6.out))))] at hrd ⊢
  rw [show checkZ (pW G_1 G_3) (List.length ([4] : List Int)) 4 = 0 from by first | (rw [checkW]; done) | (rw [checkW]; rfl)]
  have hprev := st6.go HS6.out (bb)
  replace HS6 := Lib.hid hprev
  clear hprev bb hrd
  go_wp2_with (refine at_alloc _ rfl ?_)
  refine Stop.to ?_
  refine wpList_alloc_gen rfl 32 rfl _ _ zero_run2 rfl ?_
  intro G_18 w_19 hG rG bG
  go_wp2_with (refine at_store _ _ _ rfl ?_)
  refine Stop.to ?_
  refine wpList_store_gen rfl 32 _ _ rfl G_18 #[.int .i64 4, .int .i64 0, .int .i64 4, .slice A_q 0 cap_q] rfl rfl 32 _ rG (by kernel_rfl) rfl (run_one _ _ _ rfl) ?_
  intro w_20 rH oH
  have bH : Below (w_17).heap.size w_17 w_20 := (bG.mono hG).trans (oH.below hG)
  have hprev := st6.go HS6.out (bH)
  obtain ⟨S7, hSd⟩ : ∃ S : World → Prop, S = (fun W => S6 W ∧ Row W G_18 32 #[.int .i64 4, .int .i64 0, .int .i64 4, .slice A_q 0 cap_q]) := ⟨_, rfl⟩
  have st7 : St S7 := by rw [hSd]; infer_instance
  have D7 : Hid (∀ W, S7 W → S6 W) := by show ∀ W, _; rw [hSd]; exact fun W h => h.1
  have F_q : Hid (∀ W, S7 W → Row W G_18 32 #[.int .i64 4, .int .i64 0, .int .i64 4, .slice A_q 0 cap_q]) := by show ∀ W, _; rw [hSd]; exact fun W h => h.2
  have HS7 : Hid (S7 w_20) := by show S7 w_20; rw [hSd]; exact ⟨hprev, rH⟩
  clear hSd
  clear hprev HS6 hG rG bG rH oH bH
  go_wp2_with (refine wpList_load_row rfl 25 _ rfl G_6 rfl 25 (pW G_1 G_3).cells (0, 0) _ (F_P1.out _ (D4.out _ (D5.out _ (D6.out _ (D7.out _ HS7.out))))) Try.underlying25 rfl (by kernel_rfl) ?_)
  refine (mRunA (pW G_1 G_3) none 0 [] 4 w_20 (by show 5 ≤ 1000; omega) (by decide) (F_ok1.out _ (D4.out _ (D5.out _ (D6.out _ (D7.out _ HS7.out))))) (Rd.nil _ _) (by simp)).mono ?_
  rintro e w_21 ⟨A_g, cap_g, rfl, hrd, _, _, _, bb⟩
  rw [runWn] at hrd ⊢
  rw [show checkZ (pW G_1 G_3) (List.length ([] : List Int)) 4 = 18 from by first | (rw [checkW]; done) | (rw [checkW]; rfl)]
  have hprev := st7.go HS7.out (bb)
  replace HS7 := Lib.hid hprev
  clear hprev bb hrd
  go_wp2_with (refine at_alloc _ rfl ?_)
  refine Stop.to ?_
  refine wpList_alloc_gen rfl 32 rfl _ _ zero_run2 rfl ?_
  intro G_22 w_23 hG rG bG
  go_wp2_with (refine at_store _ _ _ rfl ?_)
  refine Stop.to ?_
  refine wpList_store_gen rfl 32 _ _ rfl G_22 #[.int .i64 0, .int .i64 0, .int .i64 0, .slice A_g 0 cap_g] rfl rfl 32 _ rG (by kernel_rfl) rfl (run_one _ _ _ rfl) ?_
  intro w_24 rH oH
  have bH : Below (w_21).heap.size w_21 w_24 := (bG.mono hG).trans (oH.below hG)
  have hprev := st7.go HS7.out (bH)
  obtain ⟨S8, hSd⟩ : ∃ S : World → Prop, S = (fun W => S7 W ∧ Row W G_22 32 #[.int .i64 0, .int .i64 0, .int .i64 0, .slice A_g 0 cap_g]) := ⟨_, rfl⟩
  have st8 : St S8 := by rw [hSd]; infer_instance
  have D8 : Hid (∀ W, S8 W → S7 W) := by show ∀ W, _; rw [hSd]; exact fun W h => h.1
  have F_g : Hid (∀ W, S8 W → Row W G_22 32 #[.int .i64 0, .int .i64 0, .int .i64 0, .slice A_g 0 cap_g]) := by show ∀ W, _; rw [hSd]; exact fun W h => h.2
  have HS8 : Hid (S8 w_24) := by show S8 w_24; rw [hSd]; exact ⟨hprev, rH⟩
  clear hSd
  clear hprev HS7 hG rG bG rH oH bH
  go_wp2_with fail
  refine (mRunA pZ none 0 [] 4 w_24 (by show 0 ≤ 1000; omega) (by decide) (pZ_ok _) (Rd.nil _ _) (by simp)).mono ?_
  rintro e w_25 ⟨A_h, cap_h, rfl, hrd, _, _, _, bb⟩
  rw [runZn] at hrd ⊢
  rw [show checkZ pZ (List.length ([] : List Int)) 4 = 23 from by first | (rw [check_Z]; done) | (rw [check_Z]; rfl)]
  have hprev := st8.go HS8.out (bb)
  replace HS8 := Lib.hid hprev
  clear hprev bb hrd
  go_wp2_with (refine at_alloc _ rfl ?_)
  refine Stop.to ?_
  refine wpList_alloc_gen rfl 32 rfl _ _ zero_run2 rfl ?_
  intro G_26 w_27 hG rG bG
  go_wp2_with (refine at_store _ _ _ rfl ?_)
  refine Stop.to ?_
  refine wpList_store_gen rfl 32 _ _ rfl G_26 #[.int .i64 0, .int .i64 0, .int .i64 0, .slice A_h 0 cap_h] rfl rfl 32 _ rG (by kernel_rfl) rfl (run_one _ _ _ rfl) ?_
  intro w_28 rH oH
  have bH : Below (w_25).heap.size w_25 w_28 := (bG.mono hG).trans (oH.below hG)
  have hprev := st8.go HS8.out (bH)
  obtain ⟨S9, hSd⟩ : ∃ S : World → Prop, S = (fun W => S8 W ∧ Row W G_26 32 #[.int .i64 0, .int .i64 0, .int .i64 0, .slice A_h 0 cap_h]) := ⟨_, rfl⟩
  have st9 : St S9 := by rw [hSd]; infer_instance
  have D9 : Hid (∀ W, S9 W → S8 W) := by show ∀ W, _; rw [hSd]; exact fun W h => h.1
  have F_h : Hid (∀ W, S9 W → Row W G_26 32 #[.int .i64 0, .int .i64 0, .int .i64 0, .slice A_h 0 cap_h]) := by show ∀ W, _; rw [hSd]; exact fun W h => h.2
  have HS9 : Hid (S9 w_28) := by show S9 w_28; rw [hSd]; exact ⟨hprev, rH⟩
  clear hSd
  clear hprev HS8 hG rG bG rH oH bH
  go_wp2_with (refine at_slice _ _ _ rfl ?_)
  refine Stop.to ?_
  refine wpList_slice_gen rfl 22 1 _ rfl 3 (ints [0]).toArray (bs_run Try.underlying22 info_i (by decide) (by decide) (by kernel_rfl)) ?_
  intro G_29 w_30 hG rG bG
  have hprev := st9.go HS9.out (bG.mono hG)
  obtain ⟨S10, hSd⟩ : ∃ S : World → Prop, S = (fun W => S9 W ∧ Row W G_29 3 (ints [0]).toArray) := ⟨_, rfl⟩
  have st10 : St S10 := by rw [hSd]; infer_instance
  have D10 : Hid (∀ W, S10 W → S9 W) := by show ∀ W, _; rw [hSd]; exact fun W h => h.1
  have F_v2 : Hid (∀ W, S10 W → Row W G_29 3 (ints [0]).toArray) := by show ∀ W, _; rw [hSd]; exact fun W h => h.2
  have HS10 : Hid (S10 w_30) := by show S10 w_30; rw [hSd]; exact ⟨hprev, rG⟩
  clear hSd
  clear hprev HS9 hG rG bG
  go_wp2_with (refine at_slice _ _ _ rfl ?_)
  refine Stop.to ?_
  refine wpList_slice_gen rfl 23 3 _ rfl 44 (bodyX.flatMap Nd.cells).toArray (bs_run Try.underlying23 info_n (by decide) (by decide) (by kernel_rfl)) ?_
  intro G_31 w_32 hG rG bG
  have hprev := st10.go HS10.out (bG.mono hG)
  obtain ⟨S11, hSd⟩ : ∃ S : World → Prop, S = (fun W => S10 W ∧ Row W G_31 44 (bodyX.flatMap Nd.cells).toArray) := ⟨_, rfl⟩
  have st11 : St S11 := by rw [hSd]; infer_instance
  have D11 : Hid (∀ W, S11 W → S10 W) := by show ∀ W, _; rw [hSd]; exact fun W h => h.1
  have F_n2 : Hid (∀ W, S11 W → Row W G_31 44 (bodyX.flatMap Nd.cells).toArray) := by show ∀ W, _; rw [hSd]; exact fun W h => h.2
  have HS11 : Hid (S11 w_32) := by show S11 w_32; rw [hSd]; exact ⟨hprev, rG⟩
  clear hSd
  clear hprev HS10 hG rG bG
  go_wp2_with (refine at_alloc _ rfl ?_)
  refine Stop.to ?_
  refine wpList_alloc_gen rfl 25 rfl _ _ zero_prog rfl ?_
  intro G_33 w_34 hG rG bG
  go_wp2_with (refine at_store _ _ _ rfl ?_)
  refine Stop.to ?_
  refine wpList_store_gen rfl 25 _ _ rfl G_33 (pX G_29 G_31).cells rfl rfl 25 _ rG (by kernel_rfl) rfl (prog_one _) ?_
  intro w_35 rH oH
  have bH : Below (w_32).heap.size w_32 w_35 := (bG.mono hG).trans (oH.below hG)
  have hprev := st11.go HS11.out (bH)
  obtain ⟨S12, hSd⟩ : ∃ S : World → Prop, S = (fun W => S11 W ∧ Row W G_33 25 (pX G_29 G_31).cells) := ⟨_, rfl⟩
  have st12 : St S12 := by rw [hSd]; infer_instance
  have D12 : Hid (∀ W, S12 W → S11 W) := by show ∀ W, _; rw [hSd]; exact fun W h => h.1
  have F_P2 : Hid (∀ W, S12 W → Row W G_33 25 (pX G_29 G_31).cells) := by show ∀ W, _; rw [hSd]; exact fun W h => h.2
  have HS12 : Hid (S12 w_35) := by show S12 w_35; rw [hSd]; exact ⟨hprev, rH⟩
  clear hSd
  clear hprev HS11 hG rG bG rH oH bH
  have F_ok2 : Hid (∀ W, S12 W → (pX G_29 G_31).ok W) := by show ∀ W, _; exact fun W hW => pX_ok (F_v2.out _ (D11.out _ (D12.out _ hW))) (F_n2.out _ (D12.out _ hW))
  go_wp2_with (refine wpList_load_row rfl 25 _ rfl G_33 rfl 25 (pX G_29 G_31).cells (0, 0) _ (F_P2.out _ HS12.out) Try.underlying25 rfl (by kernel_rfl) ?_)
  refine (mRunA (pX G_29 G_31) none 0 [] 9 w_35 (by show 3 ≤ 1000; omega) (by decide) (F_ok2.out _ HS12.out) (Rd.nil _ _) (by simp)).mono ?_
  rintro e w_36 ⟨A_s, cap_s, rfl, hrd, _, _, _, bb⟩
  rw [runX9 (F_ok2.out _ HS12.out)] at hrd ⊢
  rw [show checkZ (pX G_29 G_31) (List.length ([] : List Int)) 9 = 0 from by first | (rw [checkX]; done) | (rw [checkX]; rfl)]
  have hprev := st12.go HS12.out (bb)
  obtain ⟨S13, hSd⟩ : ∃ S : World → Prop, S = (fun W => S12 W ∧ Rd W A_s (([⟨0, -1, 7⟩] : List EvV).flatMap EvV.cells)) := ⟨_, rfl⟩
  have st13 : St S13 := by rw [hSd]; infer_instance
  have D13 : Hid (∀ W, S13 W → S12 W) := by show ∀ W, _; rw [hSd]; exact fun W h => h.1
  have F_rd_s : Hid (∀ W, S13 W → Rd W A_s (([⟨0, -1, 7⟩] : List EvV).flatMap EvV.cells)) := by show ∀ W, _; rw [hSd]; exact fun W h => h.2
  have HS13 : Hid (S13 w_36) := by show S13 w_36; rw [hSd]; exact ⟨hprev, hrd⟩
  clear hSd
  clear hprev HS12 bb hrd
  go_wp2_with (refine at_alloc _ rfl ?_)
  refine Stop.to ?_
  refine wpList_alloc_gen rfl 32 rfl _ _ zero_run2 rfl ?_
  intro G_37 w_38 hG rG bG
  go_wp2_with (refine at_store _ _ _ rfl ?_)
  refine Stop.to ?_
  refine wpList_store_gen rfl 32 _ _ rfl G_37 #[.int .i64 3, .int .i64 0, .int .i64 3, .slice A_s 1 cap_s] rfl rfl 32 _ rG (by kernel_rfl) rfl (run_one _ _ _ rfl) ?_
  intro w_39 rH oH
  have bH : Below (w_36).heap.size w_36 w_39 := (bG.mono hG).trans (oH.below hG)
  have hprev := st13.go HS13.out (bH)
  obtain ⟨S14, hSd⟩ : ∃ S : World → Prop, S = (fun W => S13 W ∧ Row W G_37 32 #[.int .i64 3, .int .i64 0, .int .i64 3, .slice A_s 1 cap_s]) := ⟨_, rfl⟩
  have st14 : St S14 := by rw [hSd]; infer_instance
  have D14 : Hid (∀ W, S14 W → S13 W) := by show ∀ W, _; rw [hSd]; exact fun W h => h.1
  have F_s : Hid (∀ W, S14 W → Row W G_37 32 #[.int .i64 3, .int .i64 0, .int .i64 3, .slice A_s 1 cap_s]) := by show ∀ W, _; rw [hSd]; exact fun W h => h.2
  have HS14 : Hid (S14 w_39) := by show S14 w_39; rw [hSd]; exact ⟨hprev, rH⟩
  clear hSd
  clear hprev HS13 hG rG bG rH oH bH
  have c3 := (F_s.out _ HS14.out).cellv (i := 3) (v := .slice A_s 1 cap_s) rfl
  go_wp2_with (refine at_slice _ _ _ rfl ?_)
  refine Stop.to ?_
  refine wpList_slice_gen rfl 30 1 _ rfl 41 (EvV.cells ⟨0, -1, 7⟩).toArray (bs_run Try.underlying30 info_e (by decide) (by decide) (by kernel_rfl)) ?_
  intro G_40 w_41 hG rG bG
  have hprev := st14.go HS14.out (bG.mono hG)
  obtain ⟨S15, hSd⟩ : ∃ S : World → Prop, S = (fun W => S14 W ∧ Row W G_40 41 (EvV.cells ⟨0, -1, 7⟩).toArray) := ⟨_, rfl⟩
  have st15 : St S15 := by rw [hSd]; infer_instance
  have D15 : Hid (∀ W, S15 W → S14 W) := by show ∀ W, _; rw [hSd]; exact fun W h => h.1
  have F_ev : Hid (∀ W, S15 W → Row W G_40 41 (EvV.cells ⟨0, -1, 7⟩).toArray) := by show ∀ W, _; rw [hSd]; exact fun W h => h.2
  have HS15 : Hid (S15 w_41) := by show S15 w_41; rw [hSd]; exact ⟨hprev, rG⟩
  clear hSd
  clear hprev HS14 hG rG bG
  clear c3
  go_wp2_with fail
  refine (refEvents_any A_s (some ⟨G_40, 0, none⟩) cap_s 1 [⟨0, -1, 7⟩] [⟨0, -1, 7⟩] w_41 (F_rd_s.out _ (D14.out _ (D15.out _ HS15.out))) (rd_row (F_ev.out _ HS15.out)) (by decide)).mono ?_
  rintro e w_42 ⟨β, rfl, hβ, bb⟩
  obtain rfl : β = true := hβ.2 rfl
  have hprev := st15.go HS15.out (bb)
  replace HS15 := Lib.hid hprev
  clear hprev bb hβ
  have r2 := (F_r.out _ (D6.out _ (D7.out _ (D8.out _ (D9.out _ (D10.out _ (D11.out _ (D12.out _ (D13.out _ (D14.out _ (D15.out _ HS15.out))))))))))).cellv (i := 2) (v := .int .i64 5) rfl
  have q0 := (F_q.out _ (D8.out _ (D9.out _ (D10.out _ (D11.out _ (D12.out _ (D13.out _ (D14.out _ (D15.out _ HS15.out))))))))).cellv (i := 0) (v := .int .i64 4) rfl
  have s0 := (F_s.out _ (D15.out _ HS15.out)).cellv (i := 0) (v := .int .i64 3) rfl
  have s2 := (F_s.out _ (D15.out _ HS15.out)).cellv (i := 2) (v := .int .i64 3) rfl
  have Hout := Lib.hid (eql_outcome 0 5 0 5)
  go_wp2_with (refine at_load 29 _ rfl ?_)
  refine Stop.to ?_
  refine wpList_holdN S15 3 HS15.out ?_
  simp only [List.take_succ_cons, List.take_zero, List.drop_succ_cons, List.drop_zero]
  (refine hold_load_at rfl 29 _ rfl (⟨G_12, 0, none⟩) rfl (outC 0 5) _ (fun W hW => out_cells (r := ⟨0, 5, 5, A_r, cap_r, []⟩) (F_r.out _ (D6.out _ (D7.out _ (D8.out _ (D9.out _ (D10.out _ (D11.out _ (D12.out _ (D13.out _ (D14.out _ (D15.out _ hW)))))))))))) Try.underlying29 rfl (by kernel_rfl) ?_; simp only [Act.put, List.setIfInBounds_toArray, List.set_cons_zero, List.set_cons_succ])
  (refine hold_value rfl ?_ (fun W hW => ?_) ?_; rotate_left; (focus (go_simp; exact rfl)); simp only [Act.put, List.setIfInBounds_toArray, List.set_cons_zero, List.set_cons_succ])
  refine hold_value rfl (.bool true) (fun W _ => run_exec_binop rfl _ (run_eqGuard_agg _ _ _ _ _ _ _ (by kernel_rfl)) (by exact Hout.out W)) ?_
  simp only [Act.put, List.setIfInBounds_toArray, List.set_cons_zero, List.set_cons_succ]
  refine wpHold_nil fun W9 hW9 => ?_
  clear r2 q0 s0 s2
  have HT15 := Lib.hid hW9
  clear HS15 hW9
  have HS15 := HT15
  clear HT15
  have r2 := (F_r.out _ (D6.out _ (D7.out _ (D8.out _ (D9.out _ (D10.out _ (D11.out _ (D12.out _ (D13.out _ (D14.out _ (D15.out _ HS15.out))))))))))).cellv (i := 2) (v := .int .i64 5) rfl
  have q0 := (F_q.out _ (D8.out _ (D9.out _ (D10.out _ (D11.out _ (D12.out _ (D13.out _ (D14.out _ (D15.out _ HS15.out))))))))).cellv (i := 0) (v := .int .i64 4) rfl
  have s0 := (F_s.out _ (D15.out _ HS15.out)).cellv (i := 0) (v := .int .i64 3) rfl
  have s2 := (F_s.out _ (D15.out _ HS15.out)).cellv (i := 2) (v := .int .i64 3) rfl
  go_wp2_with (first | (refine wpList_load_rowG rfl 25 _ rfl G_6 rfl 25 (pW G_1 G_3).cells (0, 0) _ (F_P1.out _ (D4.out _ (D5.out _ (D6.out _ (D7.out _ (D8.out _ (D9.out _ (D10.out _ (D11.out _ (D12.out _ (D13.out _ (D14.out _ (D15.out _ HS15.out))))))))))))) Try.underlying25 rfl (by kernel_rfl) ?_) | (refine at_slice _ _ _ rfl ?_))
  refine Stop.to ?_
  refine wpList_slice_gen rfl 22 1 _ rfl 3 (ints [4]).toArray (bs_run Try.underlying22 info_i (by decide) (by decide) (by kernel_rfl)) ?_
  intro G_43 w_44 hG rG bG
  have hprev := st15.go HS15.out (bG.mono hG)
  obtain ⟨S16, hSd⟩ : ∃ S : World → Prop, S = (fun W => S15 W ∧ Row W G_43 3 (ints [4]).toArray) := ⟨_, rfl⟩
  have st16 : St S16 := by rw [hSd]; infer_instance
  have D16 : Hid (∀ W, S16 W → S15 W) := by show ∀ W, _; rw [hSd]; exact fun W h => h.1
  have F_b0 : Hid (∀ W, S16 W → Row W G_43 3 (ints [4]).toArray) := by show ∀ W, _; rw [hSd]; exact fun W h => h.2
  have HS16 : Hid (S16 w_44) := by show S16 w_44; rw [hSd]; exact ⟨hprev, rG⟩
  clear hSd
  clear hprev HS15 hG rG bG
  clear r2 q0 s0 s2
  go_wp2_with fail
  refine (mCheck_any (pW G_1 G_3) (some ⟨G_43, 0, none⟩) 1 1 (-1) (by show 5 ≤ 1000; omega) (by decide) w_44 (F_ok1.out _ (D4.out _ (D5.out _ (D6.out _ (D7.out _ (D8.out _ (D9.out _ (D10.out _ (D11.out _ (D12.out _ (D13.out _ (D14.out _ (D15.out _ (D16.out _ HS16.out))))))))))))))).mono ?_
  rintro e w_45 ⟨rfl, bb⟩
  rw [show checkZ (pW G_1 G_3) 1 (-1) = 19 from by rw [checkW]; rfl]
  have hprev := st16.go HS16.out (bb)
  replace HS16 := Lib.hid hprev
  clear hprev bb
  go_wp2_with (first | (refine wpList_load_rowG rfl 25 _ rfl G_6 rfl 25 (pW G_1 G_3).cells (0, 0) _ (F_P1.out _ (D4.out _ (D5.out _ (D6.out _ (D7.out _ (D8.out _ (D9.out _ (D10.out _ (D11.out _ (D12.out _ (D13.out _ (D14.out _ (D15.out _ (D16.out _ HS16.out)))))))))))))) Try.underlying25 rfl (by kernel_rfl) ?_) | (refine at_slice _ _ _ rfl ?_))
  refine Stop.to ?_
  refine wpList_slice_gen rfl 22 1 _ rfl 3 (ints [4]).toArray (bs_run Try.underlying22 info_i (by decide) (by decide) (by kernel_rfl)) ?_
  intro G_46 w_47 hG rG bG
  have hprev := st16.go HS16.out (bG.mono hG)
  obtain ⟨S17, hSd⟩ : ∃ S : World → Prop, S = (fun W => S16 W ∧ Row W G_46 3 (ints [4]).toArray) := ⟨_, rfl⟩
  have st17 : St S17 := by rw [hSd]; infer_instance
  have D17 : Hid (∀ W, S17 W → S16 W) := by show ∀ W, _; rw [hSd]; exact fun W h => h.1
  have F_b1 : Hid (∀ W, S17 W → Row W G_46 3 (ints [4]).toArray) := by show ∀ W, _; rw [hSd]; exact fun W h => h.2
  have HS17 : Hid (S17 w_47) := by show S17 w_47; rw [hSd]; exact ⟨hprev, rG⟩
  clear hSd
  clear hprev HS16 hG rG bG
  go_wp2_with fail
  refine (mCheck_any (pW G_1 G_3) (some ⟨G_46, 0, none⟩) 1 1 (0) (by show 5 ≤ 1000; omega) (by decide) w_47 (F_ok1.out _ (D4.out _ (D5.out _ (D6.out _ (D7.out _ (D8.out _ (D9.out _ (D10.out _ (D11.out _ (D12.out _ (D13.out _ (D14.out _ (D15.out _ (D16.out _ (D17.out _ HS17.out)))))))))))))))).mono ?_
  rintro e w_48 ⟨rfl, bb⟩
  rw [show checkZ (pW G_1 G_3) 1 (0) = 0 from by rw [checkW]; rfl]
  have hprev := st17.go HS17.out (bb)
  replace HS17 := Lib.hid hprev
  clear hprev bb
  go_wp2_with fail
  go_ret
  exact ⟨rfl, (F_low.out _ (D1.out _ (D2.out _ (D3.out _ (D4.out _ (D5.out _ (D6.out _ (D7.out _ (D8.out _ (D9.out _ (D10.out _ (D11.out _ (D12.out _ (D13.out _ (D14.out _ (D15.out _ (D16.out _ (D17.out _ HS17.out))))))))))))))))))⟩
end Go.Proofs.Ytlglilmgklipdaa
