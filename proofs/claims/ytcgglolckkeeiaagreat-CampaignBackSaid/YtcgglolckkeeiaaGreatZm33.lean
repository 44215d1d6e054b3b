/- Lemmas for CmAll. -/
import Derived.Test.YtcgglolckkeeiaaGreatZm32
import Derived.Test.YtcgglolckkeeiaaGreatZm12
import Derived.Test.YtcgglolckkeeiaaGreatZm26
namespace Go.Proofs.YtcgglolckkeeiaaGreat
set_option linter.unusedVariables false
set_option linter.unusedSimpArgs false
open Go.RowKit Go.Deep
set_option maxRecDepth 100000 in
set_option maxHeartbeats 16000000 in
theorem works21_any (w : World) : Calls Tryz.prog 29 #[] w fun e w' => e = .returned (.bool true) ∧ Below w.heap.size w w' := by
 go_enter Tryz.func29, Tryz.ntmps29
 obtain ⟨S0, hSd⟩ : ∃ S : World → Prop, S = (fun W => Below w.heap.size w W) := ⟨_, rfl⟩
 have st0 : St S0 := by rw [hSd]; infer_instance
 have F_low : Hid (∀ W, S0 W → Below w.heap.size w W) := by show ∀ W, _; rw [hSd]; exact fun W h => h
 have HS0 : Hid (S0 w) := by show S0 w; rw [hSd]; exact Below.refl _ _
 clear hSd
 go_wp2_with (refine at_slice _ _ _ rfl ?_)
 refine Stop.to ?_
 refine wpList_slice_gen rfl 22 1 _ rfl 3 (ints [0]).toArray (bs_run Tryz.underlying22 info_iE (by decide) (by decide) (by kernel_rfl)) ?_
 intro G_1 w_2 hG rG bG
 have hprev := st0.go HS0.out (bG.mono hG)
 obtain ⟨S1, hSd⟩ : ∃ S : World → Prop, S = (fun W => S0 W ∧ Row W G_1 3 (ints [0]).toArray) := ⟨_, rfl⟩
 have st1 : St S1 := by rw [hSd]; infer_instance
 have D1 : Hid (∀ W, S1 W → S0 W) := by show ∀ W, _; rw [hSd]; exact fun W h => h.1
 have F_v1 : Hid (∀ W, S1 W → Row W G_1 3 (ints [0]).toArray) := by show ∀ W, _; rw [hSd]; exact fun W h => h.2
 have HS1 : Hid (S1 w_2) := by show S1 w_2; rw [hSd]; exact ⟨hprev, rG⟩
 clear hSd
 clear hprev HS0 hG rG bG
 go_wp2_with (refine at_slice _ _ _ rfl ?_)
 refine Stop.to ?_
 refine wpList_slice_gen rfl 23 3 _ rfl 74 (bodyE.flatMap Nd.cells).toArray (bs_run Tryz.underlying23 info_nE (by decide) (by decide) (by kernel_rfl)) ?_
 intro G_3 w_4 hG rG bG
 have hprev := st1.go HS1.out (bG.mono hG)
 obtain ⟨S2, hSd⟩ : ∃ S : World → Prop, S = (fun W => S1 W ∧ Row W G_3 74 (bodyE.flatMap Nd.cells).toArray) := ⟨_, rfl⟩
 have st2 : St S2 := by rw [hSd]; infer_instance
 have D2 : Hid (∀ W, S2 W → S1 W) := by show ∀ W, _; rw [hSd]; exact fun W h => h.1
 have F_n1 : Hid (∀ W, S2 W → Row W G_3 74 (bodyE.flatMap Nd.cells).toArray) := by show ∀ W, _; rw [hSd]; exact fun W h => h.2
 have HS2 : Hid (S2 w_4) := by show S2 w_4; rw [hSd]; exact ⟨hprev, rG⟩
 clear hSd
 clear hprev HS1 hG rG bG
 go_wp2_with (refine at_alloc _ rfl ?_)
 refine Stop.to ?_
 refine wpList_alloc_gen rfl 25 rfl _ _ zero_pgE rfl ?_
 intro G_5 w_6 hG rG bG
 go_wp2_with (refine at_store _ _ _ rfl ?_)
 refine Stop.to ?_
 refine wpList_store_gen rfl 25 _ _ rfl G_5 #[.int .i64 1, .slice (some ⟨G_1, 0, none⟩) 1 1, .slice (some ⟨G_3, 0, none⟩) 3 3] rfl rfl 25 _ rG (by kernel_rfl) rfl (by simp [Value.oneCell']) ?_
 intro w_7 rH oH
 have bH : Below (w_4).heap.size w_4 w_7 := (bG.mono hG).trans (oH.below hG)
 have hprev := st2.go HS2.out (bH)
 obtain ⟨S3, hSd⟩ : ∃ S : World → Prop, S = (fun W => S2 W ∧ Row W G_5 25 #[.int .i64 1, .slice (some ⟨G_1, 0, none⟩) 1 1, .slice (some ⟨G_3, 0, none⟩) 3 3]) := ⟨_, rfl⟩
 have st3 : St S3 := by rw [hSd]; infer_instance
 have D3 : Hid (∀ W, S3 W → S2 W) := by show ∀ W, _; rw [hSd]; exact fun W h => h.1
 have F_P : Hid (∀ W, S3 W → Row W G_5 25 #[.int .i64 1, .slice (some ⟨G_1, 0, none⟩) 1 1, .slice (some ⟨G_3, 0, none⟩) 3 3]) := by show ∀ W, _; rw [hSd]; exact fun W h => h.2
 have HS3 : Hid (S3 w_7) := by show S3 w_7; rw [hSd]; exact ⟨hprev, rH⟩
 clear hSd
 clear hprev HS2 hG rG bG rH oH bH
 go_wp2_with (refine at_slice _ _ _ rfl ?_)
 refine Stop.to ?_
 refine wpList_slice_gen rfl 22 1 _ rfl 3 (ints [0]).toArray (bs_run Tryz.underlying22 info_iE (by decide) (by decide) (by kernel_rfl)) ?_
 intro G_8 w_9 hG rG bG
 have hprev := st3.go HS3.out (bG.mono hG)
 obtain ⟨S4, hSd⟩ : ∃ S : World → Prop, S = (fun W => S3 W ∧ Row W G_8 3 (ints [0]).toArray) := ⟨_, rfl⟩
 have st4 : St S4 := by rw [hSd]; infer_instance
 have D4 : Hid (∀ W, S4 W → S3 W) := by show ∀ W, _; rw [hSd]; exact fun W h => h.1
 have F_d1 : Hid (∀ W, S4 W → Row W G_8 3 (ints [0]).toArray) := by show ∀ W, _; rw [hSd]; exact fun W h => h.2
 have HS4 : Hid (S4 w_9) := by show S4 w_9; rw [hSd]; exact ⟨hprev, rG⟩
 clear hSd
 clear hprev HS3 hG rG bG
 go_wp2_with (refine at_alloc _ rfl ?_)
 refine Stop.to ?_
 refine wpList_alloc_gen rfl 47 rfl _ _ (zero_mt _) rfl ?_
 intro G_10 w_11 hG rG bG
 go_wp2_with (refine at_store _ _ _ rfl ?_)
 refine Stop.to ?_
 refine wpList_store_gen rfl 47 _ _ rfl G_10 #[.slice (some ⟨G_8, 0, none⟩) 1 1, .int .i64 5, .int .i64 0, .int .i64 0, .int .i64 (-1), .int .i64 0, .int .i64 0, .string ByteArray.empty] rfl rfl 47 _ rG (by kernel_rfl) rfl (by simp [Value.oneCell']) ?_
 intro w_12 rH oH
 have bH : Below (w_9).heap.size w_9 w_12 := (bG.mono hG).trans (oH.below hG)
 have hprev := st4.go HS4.out (bH)
 obtain ⟨S5, hSd⟩ : ∃ S : World → Prop, S = (fun W => S4 W ∧ Row W G_10 47 #[.slice (some ⟨G_8, 0, none⟩) 1 1, .int .i64 5, .int .i64 0, .int .i64 0, .int .i64 (-1), .int .i64 0, .int .i64 0, .string ByteArray.empty]) := ⟨_, rfl⟩
 have st5 : St S5 := by rw [hSd]; infer_instance
 have D5 : Hid (∀ W, S5 W → S4 W) := by show ∀ W, _; rw [hSd]; exact fun W h => h.1
 have F_M : Hid (∀ W, S5 W → Row W G_10 47 #[.slice (some ⟨G_8, 0, none⟩) 1 1, .int .i64 5, .int .i64 0, .int .i64 0, .int .i64 (-1), .int .i64 0, .int .i64 0, .string ByteArray.empty]) := by show ∀ W, _; rw [hSd]; exact fun W h => h.2
 have HS5 : Hid (S5 w_12) := by show S5 w_12; rw [hSd]; exact ⟨hprev, rH⟩
 clear hSd
 clear hprev HS4 hG rG bG rH oH bH
 go_wp2_with (first | (refine wpList_load_row rfl 25 _ rfl G_5 rfl 25 #[.int .i64 1, .slice (some ⟨G_1, 0, none⟩) 1 1, .slice (some ⟨G_3, 0, none⟩) 3 3] (0, 0) _ (F_P.out _ (D4.out _ (D5.out _ HS5.out))) Tryz.underlying25 rfl (by kernel_rfl) ?_) | (refine at_slice _ _ _ rfl ?_))
 refine Stop.to ?_
 refine wpList_slice_gen rfl 22 1 _ rfl 3 (ints [1]).toArray (bs_run Tryz.underlying22 info_iE (by decide) (by decide) (by kernel_rfl)) ?_
 intro G_13 w_14 hG rG bG
 have hprev := st5.go HS5.out (bG.mono hG)
 obtain ⟨S6, hSd⟩ : ∃ S : World → Prop, S = (fun W => S5 W ∧ Row W G_13 3 (ints [1]).toArray) := ⟨_, rfl⟩
 have st6 : St S6 := by rw [hSd]; infer_instance
 have D6 : Hid (∀ W, S6 W → S5 W) := by show ∀ W, _; rw [hSd]; exact fun W h => h.1
 have F_t1 : Hid (∀ W, S6 W → Row W G_13 3 (ints [1]).toArray) := by show ∀ W, _; rw [hSd]; exact fun W h => h.2
 have HS6 : Hid (S6 w_14) := by show S6 w_14; rw [hSd]; exact ⟨hprev, rG⟩
 clear hSd
 clear hprev HS5 hG rG bG
 go_wp2_with (refine at_slice _ _ _ rfl ?_)
 refine Stop.to ?_
 refine wpList_slice_gen rfl 26 1 _ rfl 22 (tstC [tvE G_13]).toArray (bs_run Tryz.underlying26 info_tE (by decide) (by decide) (by kernel_rfl)) ?_
 intro G_15 w_16 hG rG bG
 have hprev := st6.go HS6.out (bG.mono hG)
 obtain ⟨S7, hSd⟩ : ∃ S : World → Prop, S = (fun W => S6 W ∧ Row W G_15 22 (tstC [tvE G_13]).toArray) := ⟨_, rfl⟩
 have st7 : St S7 := by rw [hSd]; infer_instance
 have D7 : Hid (∀ W, S7 W → S6 W) := by show ∀ W, _; rw [hSd]; exact fun W h => h.1
 have F_T1 : Hid (∀ W, S7 W → Row W G_15 22 (tstC [tvE G_13]).toArray) := by show ∀ W, _; rw [hSd]; exact fun W h => h.2
 have HS7 : Hid (S7 w_16) := by show S7 w_16; rw [hSd]; exact ⟨hprev, rG⟩
 clear hSd
 clear hprev HS6 hG rG bG
 go_wp2_with (first | (refine wpList_load_row rfl 47 _ rfl G_10 rfl 47 #[.slice (some ⟨G_8, 0, none⟩) 1 1, .int .i64 5, .int .i64 0, .int .i64 0, .int .i64 (-1), .int .i64 0, .int .i64 0, .string ByteArray.empty] (0, 0) _ (F_M.out _ (D6.out _ (D7.out _ HS7.out))) Tryz.underlying47 rfl (by kernel_rfl) ?_) | (refine at_slice _ _ _ rfl ?_))
 refine Stop.to ?_
 refine wpList_slice_gen rfl 27 1 _ rfl 47 (mtsC [mvE G_8]).toArray (bs_run Tryz.underlying27 info_mtz (by decide) (by decide) (by kernel_rfl)) ?_
 intro G_17 w_18 hG rG bG
 have hprev := st7.go HS7.out (bG.mono hG)
 obtain ⟨S8, hSd⟩ : ∃ S : World → Prop, S = (fun W => S7 W ∧ Row W G_17 47 (mtsC [mvE G_8]).toArray) := ⟨_, rfl⟩
 have st8 : St S8 := by rw [hSd]; infer_instance
 have D8 : Hid (∀ W, S8 W → S7 W) := by show ∀ W, _; rw [hSd]; exact fun W h => h.1
 have F_M1 : Hid (∀ W, S8 W → Row W G_17 47 (mtsC [mvE G_8]).toArray) := by show ∀ W, _; rw [hSd]; exact fun W h => h.2
 have HS8 : Hid (S8 w_18) := by show S8 w_18; rw [hSd]; exact ⟨hprev, rG⟩
 clear hSd
 clear hprev HS7 hG rG bG
 go_wp2_with (refine at_alloc _ rfl ?_)
 refine Stop.to ?_
 refine wpList_alloc_gen rfl 31 rfl _ _ (zero_cp _) rfl ?_
 intro G_19 w_20 hG rG bG
 go_wp2_with (refine at_store _ _ _ rfl ?_)
 refine Stop.to ?_
 refine wpList_store_gen rfl 31 _ _ rfl G_19 #[.int .i64 1, .slice (some ⟨G_1, 0, none⟩) 1 1, .slice (some ⟨G_3, 0, none⟩) 3 3, .slice (some ⟨G_15, 0, none⟩) 1 1, .int .i64 9, .slice (some ⟨G_17, 0, none⟩) 1 1, .int .i64 1, .int .i64 0, .int .i64 0] rfl rfl 31 _ rG (by kernel_rfl) rfl (by simp [Value.oneCell']) ?_
 intro w_21 rH oH
 have bH : Below (w_18).heap.size w_18 w_21 := (bG.mono hG).trans (oH.below hG)
 have hprev := st8.go HS8.out (bH)
 obtain ⟨S9, hSd⟩ : ∃ S : World → Prop, S = (fun W => S8 W ∧ Row W G_19 31 #[.int .i64 1, .slice (some ⟨G_1, 0, none⟩) 1 1, .slice (some ⟨G_3, 0, none⟩) 3 3, .slice (some ⟨G_15, 0, none⟩) 1 1, .int .i64 9, .slice (some ⟨G_17, 0, none⟩) 1 1, .int .i64 1, .int .i64 0, .int .i64 0]) := ⟨_, rfl⟩
 have st9 : St S9 := by rw [hSd]; infer_instance
 have D9 : Hid (∀ W, S9 W → S8 W) := by show ∀ W, _; rw [hSd]; exact fun W h => h.1
 have F_C : Hid (∀ W, S9 W → Row W G_19 31 #[.int .i64 1, .slice (some ⟨G_1, 0, none⟩) 1 1, .slice (some ⟨G_3, 0, none⟩) 3 3, .slice (some ⟨G_15, 0, none⟩) 1 1, .int .i64 9, .slice (some ⟨G_17, 0, none⟩) 1 1, .int .i64 1, .int .i64 0, .int .i64 0]) := by show ∀ W, _; rw [hSd]; exact fun W h => h.2
 have HS9 : Hid (S9 w_21) := by show S9 w_21; rw [hSd]; exact ⟨hprev, rH⟩
 clear hSd
 clear hprev HS8 hG rG bG rH oH bH
 have F_okc : Hid (∀ W, S9 W → CpOk W (cE G_1 G_3 G_8 G_13 G_15 G_17)) := by show ∀ W, _; exact fun W hW => cE_ok (F_v1.out _ (D2.out _ (D3.out _ (D4.out _ (D5.out _ (D6.out _ (D7.out _ (D8.out _ (D9.out _ hW))))))))) (F_n1.out _ (D3.out _ (D4.out _ (D5.out _ (D6.out _ (D7.out _ (D8.out _ (D9.out _ hW)))))))) (F_d1.out _ (D5.out _ (D6.out _ (D7.out _ (D8.out _ (D9.out _ hW)))))) (F_t1.out _ (D7.out _ (D8.out _ (D9.out _ hW)))) (F_T1.out _ (D8.out _ (D9.out _ hW))) (F_M1.out _ (D9.out _ hW))
 have F_okz : Hid (∀ W, S9 W → CpOk W (zE G_1 G_3 G_8 G_13 G_15 G_17)) := by show ∀ W, _; exact fun W hW => zE_ok (F_v1.out _ (D2.out _ (D3.out _ (D4.out _ (D5.out _ (D6.out _ (D7.out _ (D8.out _ (D9.out _ hW))))))))) (F_n1.out _ (D3.out _ (D4.out _ (D5.out _ (D6.out _ (D7.out _ (D8.out _ (D9.out _ hW)))))))) (F_d1.out _ (D5.out _ (D6.out _ (D7.out _ (D8.out _ (D9.out _ hW)))))) (F_t1.out _ (D7.out _ (D8.out _ (D9.out _ hW)))) (F_T1.out _ (D8.out _ (D9.out _ hW))) (F_M1.out _ (D9.out _ hW))
 go_wp2_with (first | (refine wpList_load_row rfl 31 _ rfl G_19 rfl 31 #[.int .i64 1, .slice (some ⟨G_1, 0, none⟩) 1 1, .slice (some ⟨G_3, 0, none⟩) 3 3, .slice (some ⟨G_15, 0, none⟩) 1 1, .int .i64 9, .slice (some ⟨G_17, 0, none⟩) 1 1, .int .i64 1, .int .i64 0, .int .i64 0] (0, 0) _ (F_C.out _ HS9.out) Tryz.underlying31 rfl (by kernel_rfl) ?_) | (refine at_alloc _ rfl ?_))
 refine Stop.to ?_
 refine wpList_alloc_gen rfl 31 rfl _ _ (zero_cp _) rfl ?_
 intro G_22 w_23 hG rG bG
 go_wp2_with (refine at_store _ _ _ rfl ?_)
 refine Stop.to ?_
 refine wpList_store_gen rfl 31 _ _ rfl G_22 #[.int .i64 1, .slice (some ⟨G_1, 0, none⟩) 1 1, .slice (some ⟨G_3, 0, none⟩) 3 3, .slice (some ⟨G_15, 0, none⟩) 1 1, .int .i64 9, .slice (some ⟨G_17, 0, none⟩) 1 1, .int .i64 1, .int .i64 0, .int .i64 0] rfl rfl 31 _ rG (by kernel_rfl) rfl (by simp [Value.oneCell']) ?_
 intro w_24 rH oH
 go_wp2_with (refine at_store _ _ _ rfl ?_)
 refine Stop.to ?_
 refine wpList_store_part rfl 29 _ _ rfl G_22 6 rfl (.agg #[.int .i64 0, .int .i64 0, .int .i64 0]) rfl [.int .i64 0, .int .i64 0, .int .i64 0] rfl 31 _ #[.int .i64 1, .slice (some ⟨G_1, 0, none⟩) 1 1, .slice (some ⟨G_3, 0, none⟩) 3 3, .slice (some ⟨G_15, 0, none⟩) 1 1, .int .i64 9, .slice (some ⟨G_17, 0, none⟩) 1 1, .int .i64 0, .int .i64 0, .int .i64 0] rH (by kernel_rfl) (by show 6 + 3 ≤ 9; omega) (by simp [Value.oneCell']) rfl ?_
 intro w_25 rI oI
 have bH : Below (w_21).heap.size w_21 w_25 := ((bG.mono hG).trans (oH.below hG)).trans (oI.below hG)
 have hprev := st9.go HS9.out (bH)
 obtain ⟨S10, hSd⟩ : ∃ S : World → Prop, S = (fun W => S9 W ∧ Row W G_22 31 #[.int .i64 1, .slice (some ⟨G_1, 0, none⟩) 1 1, .slice (some ⟨G_3, 0, none⟩) 3 3, .slice (some ⟨G_15, 0, none⟩) 1 1, .int .i64 9, .slice (some ⟨G_17, 0, none⟩) 1 1, .int .i64 0, .int .i64 0, .int .i64 0]) := ⟨_, rfl⟩
 have st10 : St S10 := by rw [hSd]; infer_instance
 have D10 : Hid (∀ W, S10 W → S9 W) := by show ∀ W, _; rw [hSd]; exact fun W h => h.1
 have F_D : Hid (∀ W, S10 W → Row W G_22 31 #[.int .i64 1, .slice (some ⟨G_1, 0, none⟩) 1 1, .slice (some ⟨G_3, 0, none⟩) 3 3, .slice (some ⟨G_15, 0, none⟩) 1 1, .int .i64 9, .slice (some ⟨G_17, 0, none⟩) 1 1, .int .i64 0, .int .i64 0, .int .i64 0]) := by show ∀ W, _; rw [hSd]; exact fun W h => h.2
 have HS10 : Hid (S10 w_25) := by show S10 w_25; rw [hSd]; exact ⟨hprev, rI⟩
 clear hSd
 clear hprev HS9 hG rG bG rH oH rI oI bH
 go_wp2_with fail
 refine (putScore_any ⟨1, 2, 3⟩ w_25).mono ?_
 rintro e w_26 ⟨rfl, bb⟩
 rw [putSc_E]
 dsimp only
 have hprev := st10.go HS10.out (bb)
 replace HS10 := Lib.hid hprev
 clear hprev bb
 go_wp2_with fail
 refine (getScore_any [1, 2, 3] w_26 (by decide)).mono ?_
 rintro e w_27 ⟨rfl, bb⟩
 rw [getSc_E]
 dsimp only
 have hprev := st10.go HS10.out (bb)
 replace HS10 := Lib.hid hprev
 clear hprev bb
 go_wp2_with (refine at_alloc _ rfl ?_)
 refine Stop.to ?_
 refine wpList_alloc_gen rfl 29 rfl _ _ (zero_score _) rfl ?_
 intro G_28 w_29 hG rG bG
 go_wp2_with (refine at_store _ _ _ rfl ?_)
 refine Stop.to ?_
 refine wpList_store_gen rfl 29 _ _ rfl G_28 #[.int .i64 1, .int .i64 2, .int .i64 3] rfl rfl 29 _ rG (by kernel_rfl) rfl (by simp [Value.oneCell']) ?_
 intro w_30 rH oH
 have bH : Below (w_27).heap.size w_27 w_30 := (bG.mono hG).trans (oH.below hG)
 have hprev := st10.go HS10.out (bH)
 obtain ⟨S11, hSd⟩ : ∃ S : World → Prop, S = (fun W => S10 W ∧ Row W G_28 29 #[.int .i64 1, .int .i64 2, .int .i64 3]) := ⟨_, rfl⟩
 have st11 : St S11 := by rw [hSd]; infer_instance
 have D11 : Hid (∀ W, S11 W → S10 W) := by show ∀ W, _; rw [hSd]; exact fun W h => h.1
 have F_X : Hid (∀ W, S11 W → Row W G_28 29 #[.int .i64 1, .int .i64 2, .int .i64 3]) := by show ∀ W, _; rw [hSd]; exact fun W h => h.2
 have HS11 : Hid (S11 w_30) := by show S11 w_30; rw [hSd]; exact ⟨hprev, rH⟩
 clear hSd
 clear hprev HS10 hG rG bG rH oH bH
 have c5 := (F_C.out _ (D10.out _ (D11.out _ HS11.out))).cellv (i := 5) (v := .slice (some ⟨G_17, 0, none⟩) 1 1) rfl
 go_wp2_with fail
 refine (putMuts_any (some ⟨G_17, 0, none⟩) 1 1 [mvE G_8] w_30 rfl (rd_row0 (F_M1.out _ (D9.out _ (D10.out _ (D11.out _ HS11.out))))) (fun x hx => by rw [List.mem_singleton.1 hx]; exact mvE_ok (F_d1.out _ (D5.out _ (D6.out _ (D7.out _ (D8.out _ (D9.out _ (D10.out _ (D11.out _ HS11.out))))))))) (fun x hx => by rw [List.mem_singleton.1 hx]; exact ⟨inI0, inI0⟩) (by omega)).mono ?_
 rintro e w_31 ⟨rfl, bb⟩
 rw [show [mvE G_8].map MtV.m = [mE] from rfl, putMts_E]
 dsimp only
 have hprev := st11.go HS11.out (bb)
 replace HS11 := Lib.hid hprev
 clear hprev bb
 clear c5
 go_wp2_with fail
 refine (getMuts_any uE w_31 uE_len).mono ?_
 rintro e w_32 ⟨A, n, cap, l, hg⟩
 have he := hg.ee
 have Hm : Hid (l.map MtV.m = [mE]) := by show _ = _; rw [hg.mm, getMts_E]
 have Hnl : Hid (n = l.length) := hg.nn
 rw [getMts_E] at he
 subst he
 have hprev := st11.go HS11.out (hg.b)
 obtain ⟨S12, hSd⟩ : ∃ S : World → Prop, S = (fun W => S11 W ∧ Rd W A (mtsC l) ∧ ∀ x ∈ l, MtT W x) := ⟨_, rfl⟩
 have st12 : St S12 := by rw [hSd]; infer_instance
 have D12 : Hid (∀ W, S12 W → S11 W) := by show ∀ W, _; rw [hSd]; exact fun W h => h.1
 have F_rl : Hid (∀ W, S12 W → Rd W A (mtsC l)) := by show ∀ W, _; rw [hSd]; exact fun W h => h.2.1
 have F_tl : Hid (∀ W, S12 W → ∀ x ∈ l, MtT W x) := by show ∀ W, _; rw [hSd]; exact fun W h => h.2.2
 have HS12 : Hid (S12 w_32) := by show S12 w_32; rw [hSd]; exact ⟨hprev, hg.rd, hg.t⟩
 clear hSd
 clear hprev HS11 hg
 go_wp2_with fail
 refine (putMuts_any none 0 0 [] w_32 rfl (Rd.nil _ _) (fun x hx => by cases hx) (fun x hx => by cases hx) (by omega)).mono ?_
 rintro e w_33 ⟨rfl, bb⟩
 rw [show ([] : List MtV).map MtV.m = [] from rfl, putMts_0]
 dsimp only
 have hprev := st12.go HS12.out (bb)
 replace HS12 := Lib.hid hprev
 clear hprev bb
 have c5 := (F_C.out _ (D10.out _ (D11.out _ (D12.out _ HS12.out)))).cellv (i := 5) (v := .slice (some ⟨G_17, 0, none⟩) 1 1) rfl
 go_wp2_with fail
 refine (refAllMuts_any A (some ⟨G_17, 0, none⟩) cap 1 n 1 l [mvE G_8] w_33 Hnl.out rfl (F_rl.out _ HS12.out) (rd_row0 (F_M1.out _ (D9.out _ (D10.out _ (D11.out _ (D12.out _ HS12.out)))))) (fun x hx => ((F_tl.out _ HS12.out) x hx).1) (fun x hx => by rw [List.mem_singleton.1 hx]; exact mvE_ok (F_d1.out _ (D5.out _ (D6.out _ (D7.out _ (D8.out _ (D9.out _ (D10.out _ (D11.out _ (D12.out _ HS12.out)))))))))) (by have h9 := congrArg List.length Hm.out; simp at h9; omega)).mono ?_
 rintro e w_34 ⟨rfl, bb⟩
 rw [show decide (l.map MtV.m = [mvE G_8].map MtV.m) = true from decide_eq_true Hm.out]
 have hprev := st12.go HS12.out (bb)
 replace HS12 := Lib.hid hprev
 clear hprev bb
 clear c5
 go_wp2_with (refine wpList_load_row rfl 31 _ rfl G_19 rfl 31 #[.int .i64 1, .slice (some ⟨G_1, 0, none⟩) 1 1, .slice (some ⟨G_3, 0, none⟩) 3 3, .slice (some ⟨G_15, 0, none⟩) 1 1, .int .i64 9, .slice (some ⟨G_17, 0, none⟩) 1 1, .int .i64 1, .int .i64 0, .int .i64 0] (0, 0) _ (F_C.out _ (D10.out _ (D11.out _ (D12.out _ HS12.out)))) Tryz.underlying31 rfl (by kernel_rfl) ?_)
 refine (cpCheck_any (cE G_1 G_3 G_8 G_13 G_15 G_17) w_34 (F_okc.out _ (D10.out _ (D11.out _ (D12.out _ HS12.out))))).mono ?_
 rintro e w_35 ⟨rfl, bb⟩
 rw [okC.2 (okE G_1 G_3 G_8 G_13 G_15 G_17)]
 have hprev := st12.go HS12.out (bb)
 replace HS12 := Lib.hid hprev
 clear hprev bb
 go_wp2_with (refine wpList_load_rowG rfl 31 _ rfl G_22 rfl 31 #[.int .i64 1, .slice (some ⟨G_1, 0, none⟩) 1 1, .slice (some ⟨G_3, 0, none⟩) 3 3, .slice (some ⟨G_15, 0, none⟩) 1 1, .int .i64 9, .slice (some ⟨G_17, 0, none⟩) 1 1, .int .i64 0, .int .i64 0, .int .i64 0] (0, 0) _ (F_D.out _ (D11.out _ (D12.out _ HS12.out))) Tryz.underlying31 rfl (by kernel_rfl) ?_)
 refine (cpCheck_any (zE G_1 G_3 G_8 G_13 G_15 G_17) w_35 (F_okz.out _ (D10.out _ (D11.out _ (D12.out _ HS12.out))))).mono ?_
 rintro e w_36 ⟨rfl, bb⟩
 rw [zE_chk]
 have hprev := st12.go HS12.out (bb)
 replace HS12 := Lib.hid hprev
 clear hprev bb
 go_wp2_with fail
 refine (cpCheck_any cp0 w_36 (cp0_ok _)).mono ?_
 rintro e w_37 ⟨rfl, bb⟩
 rw [cp0_chk]
 have hprev := st12.go HS12.out (bb)
 replace HS12 := Lib.hid hprev
 clear hprev bb
 go_wp2_with (first | (refine wpList_load_rowG rfl 29 _ rfl G_28 rfl 29 #[.int .i64 1, .int .i64 2, .int .i64 3] (0, 0) _ (F_X.out _ (D12.out _ HS12.out)) Tryz.underlying29 rfl (by kernel_rfl) ?_) | (refine wpList_load_rowG rfl 31 _ rfl G_19 rfl 31 #[.int .i64 1, .slice (some ⟨G_1, 0, none⟩) 1 1, .slice (some ⟨G_3, 0, none⟩) 3 3, .slice (some ⟨G_15, 0, none⟩) 1 1, .int .i64 9, .slice (some ⟨G_17, 0, none⟩) 1 1, .int .i64 1, .int .i64 0, .int .i64 0] (0, 0) _ (F_C.out _ (D10.out _ (D11.out _ (D12.out _ HS12.out)))) Tryz.underlying31 rfl (by kernel_rfl) ?_))
 refine (cpSame_any (cE G_1 G_3 G_8 G_13 G_15 G_17) (cE G_1 G_3 G_8 G_13 G_15 G_17) w_37 (F_okc.out _ (D10.out _ (D11.out _ (D12.out _ HS12.out)))) (F_okc.out _ (D10.out _ (D11.out _ (D12.out _ HS12.out))))).mono ?_
 rintro e w_38 ⟨rfl, bb⟩
 rw [show sameC (cE G_1 G_3 G_8 G_13 G_15 G_17) (cE G_1 G_3 G_8 G_13 G_15 G_17) = true from sameC_iff.2 rfl]
 have hprev := st12.go HS12.out (bb)
 replace HS12 := Lib.hid hprev
 clear hprev bb
 go_wp2_with (first | (refine wpList_load_rowG rfl 31 _ rfl G_19 rfl 31 #[.int .i64 1, .slice (some ⟨G_1, 0, none⟩) 1 1, .slice (some ⟨G_3, 0, none⟩) 3 3, .slice (some ⟨G_15, 0, none⟩) 1 1, .int .i64 9, .slice (some ⟨G_17, 0, none⟩) 1 1, .int .i64 1, .int .i64 0, .int .i64 0] (0, 0) _ (F_C.out _ (D10.out _ (D11.out _ (D12.out _ HS12.out)))) Tryz.underlying31 rfl (by kernel_rfl) ?_) | (refine wpList_load_rowG rfl 31 _ rfl G_22 rfl 31 #[.int .i64 1, .slice (some ⟨G_1, 0, none⟩) 1 1, .slice (some ⟨G_3, 0, none⟩) 3 3, .slice (some ⟨G_15, 0, none⟩) 1 1, .int .i64 9, .slice (some ⟨G_17, 0, none⟩) 1 1, .int .i64 0, .int .i64 0, .int .i64 0] (0, 0) _ (F_D.out _ (D11.out _ (D12.out _ HS12.out))) Tryz.underlying31 rfl (by kernel_rfl) ?_))
 refine (cpSame_any (cE G_1 G_3 G_8 G_13 G_15 G_17) (zE G_1 G_3 G_8 G_13 G_15 G_17) w_38 (F_okc.out _ (D10.out _ (D11.out _ (D12.out _ HS12.out)))) (F_okz.out _ (D10.out _ (D11.out _ (D12.out _ HS12.out))))).mono ?_
 rintro e w_39 ⟨rfl, bb⟩
 rw [zE_same]
 have hprev := st12.go HS12.out (bb)
 replace HS12 := Lib.hid hprev
 clear hprev bb
 go_wp2_with fail
 go_ret
 exact ⟨rfl, (F_low.out _ (D1.out _ (D2.out _ (D3.out _ (D4.out _ (D5.out _ (D6.out _ (D7.out _ (D8.out _ (D9.out _ (D10.out _ (D11.out _ (D12.out _ HS12.out)))))))))))))⟩
end Go.Proofs.YtcgglolckkeeiaaGreat
namespace Go.Proofs.YtcgglolckkeeiaaGreat
set_option linter.unusedVariables false
set_option linter.unusedSimpArgs false
open Go.ChangeShapes Go.WideShapes Go.RowKit Go.Deep
structure MtsV where
 A : Option Addr
 cap : Nat
 l : List MtV
def MtsV.val (x : MtsV) : Value := .slice x.A x.l.length x.cap
structure MtsRaw (W : World) (x : MtsV) : Prop where
 len : x.l.length ≤ x.cap
 cap : x.cap ≤ maxLen
 nil : x.A = none → x.cap = 0
 rd : Rd W x.A (mtsC x.l)
 all : ∀ e ∈ x.l, MtRaw W e
theorem MtsRaw.go {W W' : World} {x : MtsV} (h : MtsRaw W x) (b : Below W.heap.size W W') : MtsRaw W' x :=
 ⟨h.len, h.cap, h.nil, h.rd.go b, fun e he => ⟨(h.all e he).1.go b, (h.all e he).2⟩⟩
instance St.mtsraw {x : MtsV} : St (fun W => MtsRaw W x) := ⟨fun h b => h.go b⟩
theorem MtsRaw.ok {W : World} {x : MtsV} (h : MtsRaw W x) (hf : fewM x.l = true) : ∀ e ∈ x.l, MtOk W e := fun e he => by
 unfold fewM at hf
 rw [decide_eq_true_eq] at hf
 have h1 := hf.2 e he
 exact ⟨(h.all e he).1, by have := h1.1; omega, fun e2 => (h.all e he).none e2, by have := h1.2; omega⟩
theorem MtsRaw.int {W : World} {x : MtsV} (h : MtsRaw W x) : ∀ e ∈ x.l, InI e.m.d.n ∧ InI e.m.value := fun e he => ⟨(h.all e he).2.n, (h.all e he).2.value⟩
theorem fewM_len {l : List MtV} (h : fewM l = true) : l.length ≤ 250 := by
 unfold fewM at h
 rw [decide_eq_true_eq] at h
 exact h.1
theorem fewM_b (A : Option Addr) (cap : Nat) (l : List MtV) (w : World) (hr : Rd w A (mtsC l)) :
 Calls Tryz.prog 32 #[.slice A l.length cap] w fun e w' => e = .returned (.bool (fewM l)) ∧ Below w.heap.size w w' :=
 (fewM_any A cap l w hr).mono fun _ _ h => ⟨h.1, by rw [← h.2]; exact Below.refl _ _⟩
def ScIn (x : Sc) : Prop := InI x.alive ∧ InI x.killed ∧ InI x.timeout
theorem neq_scE (x : Sc) (W : World) : (binOp .neq 29 (.agg #[.int .i64 x.alive, .int .i64 x.killed, .int .i64 x.timeout]) (.agg #[.int .i64 x.alive, .int .i64 x.killed, .int .i64 x.timeout])).run Tryz.prog W = .ok (.bool false) W := by
 simp [go_sem]
theorem putSc_0 {x : Sc} {a : List UInt8} (h : (a, (0 : Int)) = putSc x) : okSc x ∧ a = encSc x := by
 unfold putSc at h
 by_cases hc : okSc x
 · rw [if_pos hc] at h; injection h with h _; exact ⟨hc, h⟩
 · rw [if_neg hc] at h; injection h with _ h; exact absurd h (by decide)
theorem encSc_len (x : Sc) : (encSc x).length ≤ 30 := by
 rw [encSc_ns]; exact nsB_len _
theorem getSc_put {x : Sc} (h : okSc x) : getSc (encSc x) = (x, 0) := gotBy_yes scRd_put h rfl
theorem getSc_0 {s : List UInt8} {z : Sc} (h : (z, (0 : Int)) = getSc s) : putSc z = (s, 0) := by
 have := gotBy_ok (enc := encSc) (ok := okSc) (z := ⟨0, 0, 0⟩) (s := s) (show (getSc s).2 = 0 by rw [← h])
 rw [show gotBy encSc okSc ⟨0, 0, 0⟩ s = (z, 0) from h.symm] at this
 rw [putSc, if_pos this.1, this.2]
theorem getSc_no {s : List UInt8} {z : Sc} {g : Int} (h : (z, g) = getSc s) (hg : ¬ g = 0) : z = ⟨0, 0, 0⟩ ∧ g = 12 := by
 have := gotBy_bad (enc := encSc) (ok := okSc) (z := ⟨0, 0, 0⟩) (s := s) (by show ¬ (getSc s).2 = 0; rw [← h]; exact hg)
 have h2 : (z, g) = (⟨0, 0, 0⟩, 12) := h.trans this
 injection h2 with h3 h4
 exact ⟨h3, h4⟩
theorem putMts_ok {l : List Mt} {a : List UInt8} (h : (a, (0 : Int)) = putMts l) (hin : ∀ m ∈ l, InI m.d.n ∧ InI m.value) : OkMs l ∧ a = encMts l := by
 unfold putMts at h
 by_cases hc : l.length ≤ 2000 ∧ l.all fineM = true
 · rw [if_pos hc] at h; injection h with h _; exact ⟨⟨hc.1, fun m hm => ⟨List.all_eq_true.1 hc.2 m hm, hin m hm⟩⟩, h⟩
 · rw [if_neg hc] at h; injection h with _ h; exact absurd h (by decide)
theorem encMts_len {l : List Mt} (h : OkMs l) : (encMts l).length ≤ 1000000 := by
 have h1 := flat_len (l := l) (List.all_eq_true.2 fun m hm => (h.2 m hm).1)
 have h2 := lebL_len l.length
 have h3 := h.1
 rw [encMts, List.length_append]
 omega
theorem getMts_put {l : List Mt} (h : OkMs l) : getMts (encMts l) = (l, 0) := gotBy_yes (rd := mtsRd) (fun x h => mtsRd_put h) h rfl
theorem getMts_0 {s : List UInt8} {l : List Mt} (h : (l, (0 : Int)) = getMts s) : putMts l = (s, 0) := by
 have := gotBy_ok (enc := encMts) (ok := OkMs) (z := []) (s := s) (show (getMts s).2 = 0 by rw [← h])
 rw [show gotBy encMts OkMs [] s = (l, 0) from h.symm] at this
 rw [putMts, if_pos ⟨this.1.1, List.all_eq_true.2 fun m hm => (this.1.2 m hm).1⟩, this.2]
theorem getMts_no {s : List UInt8} {l : List Mt} {g : Int} (h : (l, g) = getMts s) (hg : ¬ g = 0) : l = [] ∧ g = 12 := by
 have := gotBy_bad (enc := encMts) (ok := OkMs) (z := []) (s := s) (by show ¬ (getMts s).2 = 0; rw [← h]; exact hg)
 have h2 : (l, g) = ([], 12) := h.trans this
 injection h2 with h3 h4
 exact ⟨h3, h4⟩
theorem str_list (s : ByteArray) : ∃ l : List UInt8, s = ⟨l.toArray⟩ := ⟨s.data.toList, by cases s; simp⟩
section
variable {H : Type} {enc : TypeId × Value → H} {w : World} {base : Nat} {spare : Nat → Bool} {held : Bool}
set_option maxRecDepth 100000 in
theorem open_mutsV {r : Go.Reach} {b0 : Nat} {v : Value} {d : DataW H} {p : List MemPlace} (hv : Value.okWide Tryz.prog w r b0 27 v) (h : DataW.Trod enc Tryz.prog w base spare held 27 v d p) :
 ∃ x : MtsV, MtsRaw w x ∧ v = x.val := by
 obtain ⟨A, cap, l, rfl, h1, h2, h3, h4, h5⟩ := open_muts hv h
 exact ⟨⟨A, cap, l⟩, ⟨h1, h2, h3, h4, h5⟩, rfl⟩
set_option maxRecDepth 100000 in
theorem open_scoreV {r : Go.Reach} {b0 : Nat} {v : Value} {d : DataW H} {p : List MemPlace} (hv : Value.okWide Tryz.prog w r b0 29 v) (h : DataW.Trod enc Tryz.prog w base spare held 29 v d p) :
 ∃ x : Sc, ScIn x ∧ v = .agg x.cells := by
 obtain ⟨cs, rfl, fuel, x, hx⟩ := trod_val Tryz.underlying29 hv h
 obtain ⟨s, rfl, h1, h2, h3⟩ := open_scoreC hx
 exact ⟨s, ⟨h1, h2, h3⟩, rfl⟩
end
end Go.Proofs.YtcgglolckkeeiaaGreat
namespace Go.Proofs.YtcgglolckkeeiaaGreat
set_option linter.unusedVariables false
set_option linter.unusedSimpArgs false
open Go.RowKit Go.Deep
set_option maxRecDepth 100000 in
set_option maxHeartbeats 16000000 in
theorem campaignScores_walk (x : Sc) (t : ByteArray) (w : World) (hx : ScIn x) : Calls Tryz.prog 13 #[.agg x.cells, .string t] w fun e w' => e = .returned (.bool true) ∧ Below w.heap.size w w' := by
 obtain ⟨s, rfl⟩ := str_list t
 clear hx
 have hszs : (⟨s.toArray⟩ : ByteArray).size = s.length := by simp [ByteArray.size]
 show Calls _ _ #[.agg #[.int .i64 x.alive, .int .i64 x.killed, .int .i64 x.timeout], _] _ _
 go_enter Tryz.func13, Tryz.ntmps13
 obtain ⟨S0, hSd⟩ : ∃ S : World → Prop, S = (fun W => Below w.heap.size w W) := ⟨_, rfl⟩
 have st0 : St S0 := by rw [hSd]; infer_instance
 have F_low : Hid (∀ W, S0 W → Below w.heap.size w W) := by show ∀ W, _; rw [hSd]; exact fun W h => h
 have HS0 : Hid (S0 w) := by show S0 w; rw [hSd]; exact Below.refl _ _
 clear hSd
 go_wp2_with (refine at_box _ _ rfl ?_)
 refine Stop.to ?_
 refine wpList_box_gen rfl 29 _ rfl #[.int .i64 x.alive, .int .i64 x.killed, .int .i64 x.timeout] rfl ?_
 intro G_1 w_2 hG rG bG
 have hprev := st0.go HS0.out (bG.mono hG)
 obtain ⟨S1, hSd⟩ : ∃ S : World → Prop, S = (fun W => S0 W ∧ Row W G_1 29 #[.int .i64 x.alive, .int .i64 x.killed, .int .i64 x.timeout]) := ⟨_, rfl⟩
 have st1 : St S1 := by rw [hSd]; infer_instance
 have D1 : Hid (∀ W, S1 W → S0 W) := by show ∀ W, _; rw [hSd]; exact fun W h => h.1
 have F_X : Hid (∀ W, S1 W → Row W G_1 29 #[.int .i64 x.alive, .int .i64 x.killed, .int .i64 x.timeout]) := by show ∀ W, _; rw [hSd]; exact fun W h => h.2
 have HS1 : Hid (S1 w_2) := by show S1 w_2; rw [hSd]; exact ⟨hprev, rG⟩
 clear hSd
 clear hprev HS0 hG rG bG
 go_wp2_with fail
 refine (works21_any w_2).mono ?_
 rintro e w_3 ⟨rfl, bb⟩
 have hprev := st1.go HS1.out (bb)
 replace HS1 := Lib.hid hprev
 clear hprev bb
 by_cases hs : 2000 < (s.length : Int)
 · skip
   go_wp2_with fail
   go_ret
   exact ⟨rfl, (F_low.out _ (D1.out _ HS1.out))⟩
 · skip
   have hsn : s.length ≤ 2000 := by omega
   go_wp2_with (refine wpList_load_row rfl 29 _ rfl G_1 rfl 29 #[.int .i64 x.alive, .int .i64 x.killed, .int .i64 x.timeout] (0, 0) _ (F_X.out _ HS1.out) Tryz.underlying29 rfl (by kernel_rfl) ?_)
   refine (putScore_any x w_3).mono ?_
   rintro e w_4 ⟨rfl, bb⟩
   obtain ⟨⟨a, ea⟩, hp⟩ : ∃ p, p = putSc x := ⟨_, rfl⟩
   rw [← hp]
   have Hp := Lib.hid hp
   clear hp
   have hprev := st1.go HS1.out (bb)
   replace HS1 := Lib.hid hprev
   clear hprev bb
   by_cases h0 : ea = 0
   · skip
     subst h0
     obtain ⟨hx, rfl⟩ := putSc_0 Hp.out
     have hal := encSc_len x
     have Hg := Lib.hid (getSc_put hx)
     clear hx
     go_wp2_with fail
     refine (getScore_any (encSc x) w_4 (by omega)).mono ?_
     rintro e w_5 ⟨rfl, bb⟩
     rw [Hg.out]
     dsimp only
     have hprev := st1.go HS1.out (bb)
     replace HS1 := Lib.hid hprev
     clear hprev bb
     go_wp2_with (refine at_alloc _ rfl ?_)
     refine Stop.to ?_
     refine wpList_alloc_gen rfl 29 rfl _ _ (zero_score _) rfl ?_
     intro G_6 w_7 hG rG bG
     go_wp2_with (refine at_store _ _ _ rfl ?_)
     refine Stop.to ?_
     refine wpList_store_gen rfl 29 _ _ rfl G_6 #[.int .i64 x.alive, .int .i64 x.killed, .int .i64 x.timeout] rfl rfl 29 _ rG (by kernel_rfl) rfl (by simp [Value.oneCell']) ?_
     intro w_8 rH oH
     have bH : Below (w_5).heap.size w_5 w_8 := (bG.mono hG).trans (oH.below hG)
     have hprev := st1.go HS1.out (bH)
     obtain ⟨S2, hSd⟩ : ∃ S : World → Prop, S = (fun W => S1 W ∧ Row W G_6 29 #[.int .i64 x.alive, .int .i64 x.killed, .int .i64 x.timeout]) := ⟨_, rfl⟩
     have st2 : St S2 := by rw [hSd]; infer_instance
     have D2 : Hid (∀ W, S2 W → S1 W) := by show ∀ W, _; rw [hSd]; exact fun W h => h.1
     have F_Y : Hid (∀ W, S2 W → Row W G_6 29 #[.int .i64 x.alive, .int .i64 x.killed, .int .i64 x.timeout]) := by show ∀ W, _; rw [hSd]; exact fun W h => h.2
     have HS2 : Hid (S2 w_8) := by show S2 w_8; rw [hSd]; exact ⟨hprev, rH⟩
     clear hSd
     clear hprev HS1 hG rG bG rH oH bH
     have hneq := neq_scE x (w_8)
     go_wp2_with (first | (refine wpList_load_rowG rfl 29 _ rfl G_6 rfl 29 #[.int .i64 x.alive, .int .i64 x.killed, .int .i64 x.timeout] (0, 0) _ (F_Y.out _ HS2.out) Tryz.underlying29 rfl (by kernel_rfl) ?_) | (refine wpList_load_rowG rfl 29 _ rfl G_1 rfl 29 #[.int .i64 x.alive, .int .i64 x.killed, .int .i64 x.timeout] (0, 0) _ (F_X.out _ (D2.out _ HS2.out)) Tryz.underlying29 rfl (by kernel_rfl) ?_))
     clear hneq
     go_wp2_with fail
     refine (getScore_any s w_8 (by omega)).mono ?_
     rintro e w_9 ⟨rfl, bb⟩
     obtain ⟨⟨z, g⟩, hz⟩ : ∃ p, p = getSc s := ⟨_, rfl⟩
     rw [← hz]
     have Hz := Lib.hid hz
     clear hz
     have hprev := st2.go HS2.out (bb)
     replace HS2 := Lib.hid hprev
     clear hprev bb
     go_wp2_with (refine at_alloc _ rfl ?_)
     refine Stop.to ?_
     refine wpList_alloc_gen rfl 29 rfl _ _ (zero_score _) rfl ?_
     intro G_10 w_11 hG rG bG
     go_wp2_with (refine at_store _ _ _ rfl ?_)
     refine Stop.to ?_
     refine wpList_store_gen rfl 29 _ _ rfl G_10 #[.int .i64 z.alive, .int .i64 z.killed, .int .i64 z.timeout] rfl rfl 29 _ rG (by kernel_rfl) rfl (by simp [Value.oneCell']) ?_
     intro w_12 rH oH
     have bH : Below (w_9).heap.size w_9 w_12 := (bG.mono hG).trans (oH.below hG)
     have hprev := st2.go HS2.out (bH)
     obtain ⟨S3, hSd⟩ : ∃ S : World → Prop, S = (fun W => S2 W ∧ Row W G_10 29 #[.int .i64 z.alive, .int .i64 z.killed, .int .i64 z.timeout]) := ⟨_, rfl⟩
     have st3 : St S3 := by rw [hSd]; infer_instance
     have D3 : Hid (∀ W, S3 W → S2 W) := by show ∀ W, _; rw [hSd]; exact fun W h => h.1
     have F_Z : Hid (∀ W, S3 W → Row W G_10 29 #[.int .i64 z.alive, .int .i64 z.killed, .int .i64 z.timeout]) := by show ∀ W, _; rw [hSd]; exact fun W h => h.2
     have HS3 : Hid (S3 w_12) := by show S3 w_12; rw [hSd]; exact ⟨hprev, rH⟩
     clear hSd
     clear hprev HS2 hG rG bG rH oH bH
     by_cases hg : g = 0
     · skip
       subst hg
       have Hp := Lib.hid (getSc_0 Hz.out)
       go_wp2_with (refine wpList_load_row rfl 29 _ rfl G_10 rfl 29 #[.int .i64 z.alive, .int .i64 z.killed, .int .i64 z.timeout] (0, 0) _ (F_Z.out _ HS3.out) Tryz.underlying29 rfl (by kernel_rfl) ?_)
       refine (putScore_any z w_12).mono ?_
       rintro e w_13 ⟨rfl, bb⟩
       rw [Hp.out]
       dsimp only
       have hprev := st3.go HS3.out (bb)
       replace HS3 := Lib.hid hprev
       clear hprev bb
       go_wp2_with fail
       go_ret
       exact ⟨rfl, (F_low.out _ (D1.out _ (D2.out _ (D3.out _ HS3.out))))⟩
     · skip
       obtain ⟨hz0, rfl⟩ := getSc_no Hz.out hg
       have hza : z.alive = 0 := by rw [hz0]
       have hzk : z.killed = 0 := by rw [hz0]
       have hzt : z.timeout = 0 := by rw [hz0]
       clear hz0 hg
       go_wp2_with (refine wpList_load_rowG rfl 29 _ rfl G_10 rfl 29 #[.int .i64 z.alive, .int .i64 z.killed, .int .i64 z.timeout] (0, 0) _ (F_Z.out _ HS3.out) Tryz.underlying29 rfl (by kernel_rfl) ?_)
       go_ret
       exact ⟨rfl, (F_low.out _ (D1.out _ (D2.out _ (D3.out _ HS3.out))))⟩
   · skip
     go_wp2_with fail
     refine (getScore_any s w_4 (by omega)).mono ?_
     rintro e w_14 ⟨rfl, bb⟩
     obtain ⟨⟨z, g⟩, hz⟩ : ∃ p, p = getSc s := ⟨_, rfl⟩
     rw [← hz]
     have Hz := Lib.hid hz
     clear hz
     have hprev := st1.go HS1.out (bb)
     replace HS1 := Lib.hid hprev
     clear hprev bb
     go_wp2_with (refine at_alloc _ rfl ?_)
     refine Stop.to ?_
     refine wpList_alloc_gen rfl 29 rfl _ _ (zero_score _) rfl ?_
     intro G_15 w_16 hG rG bG
     go_wp2_with (refine at_store _ _ _ rfl ?_)
     refine Stop.to ?_
     refine wpList_store_gen rfl 29 _ _ rfl G_15 #[.int .i64 z.alive, .int .i64 z.killed, .int .i64 z.timeout] rfl rfl 29 _ rG (by kernel_rfl) rfl (by simp [Value.oneCell']) ?_
     intro w_17 rH oH
     have bH : Below (w_14).heap.size w_14 w_17 := (bG.mono hG).trans (oH.below hG)
     have hprev := st1.go HS1.out (bH)
     obtain ⟨S2, hSd⟩ : ∃ S : World → Prop, S = (fun W => S1 W ∧ Row W G_15 29 #[.int .i64 z.alive, .int .i64 z.killed, .int .i64 z.timeout]) := ⟨_, rfl⟩
     have st2 : St S2 := by rw [hSd]; infer_instance
     have D2 : Hid (∀ W, S2 W → S1 W) := by show ∀ W, _; rw [hSd]; exact fun W h => h.1
     have F_Z : Hid (∀ W, S2 W → Row W G_15 29 #[.int .i64 z.alive, .int .i64 z.killed, .int .i64 z.timeout]) := by show ∀ W, _; rw [hSd]; exact fun W h => h.2
     have HS2 : Hid (S2 w_17) := by show S2 w_17; rw [hSd]; exact ⟨hprev, rH⟩
     clear hSd
     clear hprev HS1 hG rG bG rH oH bH
     by_cases hg : g = 0
     · skip
       subst hg
       have Hp := Lib.hid (getSc_0 Hz.out)
       go_wp2_with (refine wpList_load_row rfl 29 _ rfl G_15 rfl 29 #[.int .i64 z.alive, .int .i64 z.killed, .int .i64 z.timeout] (0, 0) _ (F_Z.out _ HS2.out) Tryz.underlying29 rfl (by kernel_rfl) ?_)
       refine (putScore_any z w_17).mono ?_
       rintro e w_18 ⟨rfl, bb⟩
       rw [Hp.out]
       dsimp only
       have hprev := st2.go HS2.out (bb)
       replace HS2 := Lib.hid hprev
       clear hprev bb
       go_wp2_with fail
       go_ret
       exact ⟨rfl, (F_low.out _ (D1.out _ (D2.out _ HS2.out)))⟩
     · skip
       obtain ⟨hz0, rfl⟩ := getSc_no Hz.out hg
       have hza : z.alive = 0 := by rw [hz0]
       have hzk : z.killed = 0 := by rw [hz0]
       have hzt : z.timeout = 0 := by rw [hz0]
       clear hz0 hg
       go_wp2_with (refine wpList_load_rowG rfl 29 _ rfl G_15 rfl 29 #[.int .i64 z.alive, .int .i64 z.killed, .int .i64 z.timeout] (0, 0) _ (F_Z.out _ HS2.out) Tryz.underlying29 rfl (by kernel_rfl) ?_)
       go_ret
       exact ⟨rfl, (F_low.out _ (D1.out _ (D2.out _ HS2.out)))⟩
end Go.Proofs.YtcgglolckkeeiaaGreat
