/- Lemmas for CoAll. -/
import Derived.Test.YtcgglolckkeeiaaGreatZo27
import Derived.Test.YtcgglolckkeeiaaGreatZo9
import Derived.Test.YtcgglolckkeeiaaGreatZo21
import Derived.Test.YtcgglolckkeeiaaGreatZo20
import Derived.Test.YtcgglolckkeeiaaGreatZo24
import Derived.Test.YtcgglolckkeeiaaGreatZo26
set_option linter.unusedVariables false
set_option linter.unusedSimpArgs false
namespace Go.Proofs.YtcgglolckkeeiaaGreat
open Go.RowKit Go.Deep
set_option maxRecDepth 100000 in
set_option maxHeartbeats 16000000 in
theorem works21_any (w : World) : Calls Tryz.prog 29 #[] w fun e w' => e = .returned (.bool true) ∧ Below w.heap.size w w' := by
 go_enter Tryz.func29, Tryz.ntmps29
 obtain ⟨S0, hSd⟩ : ∃ S : World → Prop, S = (fun W => Below w.heap.size w W) := ⟨_, rfl⟩
 have st0 : St S0 := by rw [hSd]; infer_instance
 have F_low : Hid (∀ W, S0 W → Below w.heap.size w W) := by show ∀ W, _; rw [hSd]; exact fun W h => h
 have HS0 : Hid (S0 w) := by show S0 w; rw [hSd]; exact Below.refl _ _
 clear hSd
 go_wp2_with (refine at_slice _ _ _ rfl ?_)
 refine Stop.to ?_
 refine wpList_slice_gen rfl 22 1 _ rfl 3 (ints [0]).toArray (bs_run Tryz.underlying22 info_iE (by decide) (by decide) (by kernel_rfl)) ?_
 intro G_1 w_2 hG rG bG
 have hprev := st0.go HS0.out (bG.mono hG)
 obtain ⟨S1, hSd⟩ : ∃ S : World → Prop, S = (fun W => S0 W ∧ Row W G_1 3 (ints [0]).toArray) := ⟨_, rfl⟩
 have st1 : St S1 := by rw [hSd]; infer_instance
 have D1 : Hid (∀ W, S1 W → S0 W) := by show ∀ W, _; rw [hSd]; exact fun W h => h.1
 have F_v1 : Hid (∀ W, S1 W → Row W G_1 3 (ints [0]).toArray) := by show ∀ W, _; rw [hSd]; exact fun W h => h.2
 have HS1 : Hid (S1 w_2) := by show S1 w_2; rw [hSd]; exact ⟨hprev, rG⟩
 clear hSd
 clear hprev HS0 hG rG bG
 go_wp2_with (refine at_slice _ _ _ rfl ?_)
 refine Stop.to ?_
 refine wpList_slice_gen rfl 23 3 _ rfl 74 (bodyE.flatMap Nd.cells).toArray (bs_run Tryz.underlying23 info_nE (by decide) (by decide) (by kernel_rfl)) ?_
 intro G_3 w_4 hG rG bG
 have hprev := st1.go HS1.out (bG.mono hG)
 obtain ⟨S2, hSd⟩ : ∃ S : World → Prop, S = (fun W => S1 W ∧ Row W G_3 74 (bodyE.flatMap Nd.cells).toArray) := ⟨_, rfl⟩
 have st2 : St S2 := by rw [hSd]; infer_instance
 have D2 : Hid (∀ W, S2 W → S1 W) := by show ∀ W, _; rw [hSd]; exact fun W h => h.1
 have F_n1 : Hid (∀ W, S2 W → Row W G_3 74 (bodyE.flatMap Nd.cells).toArray) := by show ∀ W, _; rw [hSd]; exact fun W h => h.2
 have HS2 : Hid (S2 w_4) := by show S2 w_4; rw [hSd]; exact ⟨hprev, rG⟩
 clear hSd
 clear hprev HS1 hG rG bG
 go_wp2_with (refine at_alloc _ rfl ?_)
 refine Stop.to ?_
 refine wpList_alloc_gen rfl 25 rfl _ _ zero_pgE rfl ?_
 intro G_5 w_6 hG rG bG
 go_wp2_with (refine at_store _ _ _ rfl ?_)
 refine Stop.to ?_
 refine wpList_store_gen rfl 25 _ _ rfl G_5 #[.int .i64 1, .slice (some ⟨G_1, 0, none⟩) 1 1, .slice (some ⟨G_3, 0, none⟩) 3 3] rfl rfl 25 _ rG (by kernel_rfl) rfl (by simp [Value.oneCell']) ?_
 intro w_7 rH oH
 have bH : Below (w_4).heap.size w_4 w_7 := (bG.mono hG).trans (oH.below hG)
 have hprev := st2.go HS2.out (bH)
 obtain ⟨S3, hSd⟩ : ∃ S : World → Prop, S = (fun W => S2 W ∧ Row W G_5 25 #[.int .i64 1, .slice (some ⟨G_1, 0, none⟩) 1 1, .slice (some ⟨G_3, 0, none⟩) 3 3]) := ⟨_, rfl⟩
 have st3 : St S3 := by rw [hSd]; infer_instance
 have D3 : Hid (∀ W, S3 W → S2 W) := by show ∀ W, _; rw [hSd]; exact fun W h => h.1
 have F_P : Hid (∀ W, S3 W → Row W G_5 25 #[.int .i64 1, .slice (some ⟨G_1, 0, none⟩) 1 1, .slice (some ⟨G_3, 0, none⟩) 3 3]) := by show ∀ W, _; rw [hSd]; exact fun W h => h.2
 have HS3 : Hid (S3 w_7) := by show S3 w_7; rw [hSd]; exact ⟨hprev, rH⟩
 clear hSd
 clear hprev HS2 hG rG bG rH oH bH
 go_wp2_with (refine at_slice _ _ _ rfl ?_)
 refine Stop.to ?_
 refine wpList_slice_gen rfl 22 1 _ rfl 3 (ints [0]).toArray (bs_run Tryz.underlying22 info_iE (by decide) (by decide) (by kernel_rfl)) ?_
 intro G_8 w_9 hG rG bG
 have hprev := st3.go HS3.out (bG.mono hG)
 obtain ⟨S4, hSd⟩ : ∃ S : World → Prop, S = (fun W => S3 W ∧ Row W G_8 3 (ints [0]).toArray) := ⟨_, rfl⟩
 have st4 : St S4 := by rw [hSd]; infer_instance
 have D4 : Hid (∀ W, S4 W → S3 W) := by show ∀ W, _; rw [hSd]; exact fun W h => h.1
 have F_d1 : Hid (∀ W, S4 W → Row W G_8 3 (ints [0]).toArray) := by show ∀ W, _; rw [hSd]; exact fun W h => h.2
 have HS4 : Hid (S4 w_9) := by show S4 w_9; rw [hSd]; exact ⟨hprev, rG⟩
 clear hSd
 clear hprev HS3 hG rG bG
 go_wp2_with (refine at_alloc _ rfl ?_)
 refine Stop.to ?_
 refine wpList_alloc_gen rfl 47 rfl _ _ (zero_mt _) rfl ?_
 intro G_10 w_11 hG rG bG
 go_wp2_with (refine at_store _ _ _ rfl ?_)
 refine Stop.to ?_
 refine wpList_store_gen rfl 47 _ _ rfl G_10 #[.slice (some ⟨G_8, 0, none⟩) 1 1, .int .i64 5, .int .i64 0, .int .i64 0, .int .i64 (-1), .int .i64 0, .int .i64 0, .string ByteArray.empty] rfl rfl 47 _ rG (by kernel_rfl) rfl (by simp [Value.oneCell']) ?_
 intro w_12 rH oH
 have bH : Below (w_9).heap.size w_9 w_12 := (bG.mono hG).trans (oH.below hG)
 have hprev := st4.go HS4.out (bH)
 obtain ⟨S5, hSd⟩ : ∃ S : World → Prop, S = (fun W => S4 W ∧ Row W G_10 47 #[.slice (some ⟨G_8, 0, none⟩) 1 1, .int .i64 5, .int .i64 0, .int .i64 0, .int .i64 (-1), .int .i64 0, .int .i64 0, .string ByteArray.empty]) := ⟨_, rfl⟩
 have st5 : St S5 := by rw [hSd]; infer_instance
 have D5 : Hid (∀ W, S5 W → S4 W) := by show ∀ W, _; rw [hSd]; exact fun W h => h.1
 have F_M : Hid (∀ W, S5 W → Row W G_10 47 #[.slice (some ⟨G_8, 0, none⟩) 1 1, .int .i64 5, .int .i64 0, .int .i64 0, .int .i64 (-1), .int .i64 0, .int .i64 0, .string ByteArray.empty]) := by show ∀ W, _; rw [hSd]; exact fun W h => h.2
 have HS5 : Hid (S5 w_12) := by show S5 w_12; rw [hSd]; exact ⟨hprev, rH⟩
 clear hSd
 clear hprev HS4 hG rG bG rH oH bH
 go_wp2_with (first | (refine wpList_load_row rfl 25 _ rfl G_5 rfl 25 #[.int .i64 1, .slice (some ⟨G_1, 0, none⟩) 1 1, .slice (some ⟨G_3, 0, none⟩) 3 3] (0, 0) _ (F_P.out _ (D4.out _ (D5.out _ HS5.out))) Tryz.underlying25 rfl (by kernel_rfl) ?_) | (refine at_slice _ _ _ rfl ?_))
 refine Stop.to ?_
 refine wpList_slice_gen rfl 22 1 _ rfl 3 (ints [1]).toArray (bs_run Tryz.underlying22 info_iE (by decide) (by decide) (by kernel_rfl)) ?_
 intro G_13 w_14 hG rG bG
 have hprev := st5.go HS5.out (bG.mono hG)
 obtain ⟨S6, hSd⟩ : ∃ S : World → Prop, S = (fun W => S5 W ∧ Row W G_13 3 (ints [1]).toArray) := ⟨_, rfl⟩
 have st6 : St S6 := by rw [hSd]; infer_instance
 have D6 : Hid (∀ W, S6 W → S5 W) := by show ∀ W, _; rw [hSd]; exact fun W h => h.1
 have F_t1 : Hid (∀ W, S6 W → Row W G_13 3 (ints [1]).toArray) := by show ∀ W, _; rw [hSd]; exact fun W h => h.2
 have HS6 : Hid (S6 w_14) := by show S6 w_14; rw [hSd]; exact ⟨hprev, rG⟩
 clear hSd
 clear hprev HS5 hG rG bG
 go_wp2_with (refine at_slice _ _ _ rfl ?_)
 refine Stop.to ?_
 refine wpList_slice_gen rfl 26 1 _ rfl 22 (tstC [tvE G_13]).toArray (bs_run Tryz.underlying26 info_tE (by decide) (by decide) (by kernel_rfl)) ?_
 intro G_15 w_16 hG rG bG
 have hprev := st6.go HS6.out (bG.mono hG)
 obtain ⟨S7, hSd⟩ : ∃ S : World → Prop, S = (fun W => S6 W ∧ Row W G_15 22 (tstC [tvE G_13]).toArray) := ⟨_, rfl⟩
 have st7 : St S7 := by rw [hSd]; infer_instance
 have D7 : Hid (∀ W, S7 W → S6 W) := by show ∀ W, _; rw [hSd]; exact fun W h => h.1
 have F_T1 : Hid (∀ W, S7 W → Row W G_15 22 (tstC [tvE G_13]).toArray) := by show ∀ W, _; rw [hSd]; exact fun W h => h.2
 have HS7 : Hid (S7 w_16) := by show S7 w_16; rw [hSd]; exact ⟨hprev, rG⟩
 clear hSd
 clear hprev HS6 hG rG bG
 go_wp2_with (first | (refine wpList_load_row rfl 47 _ rfl G_10 rfl 47 #[.slice (some ⟨G_8, 0, none⟩) 1 1, .int .i64 5, .int .i64 0, .int .i64 0, .int .i64 (-1), .int .i64 0, .int .i64 0, .string ByteArray.empty] (0, 0) _ (F_M.out _ (D6.out _ (D7.out _ HS7.out))) Tryz.underlying47 rfl (by kernel_rfl) ?_) | (refine at_slice _ _ _ rfl ?_))
 refine Stop.to ?_
 refine wpList_slice_gen rfl 27 1 _ rfl 47 (mtsC [mvE G_8]).toArray (bs_run Tryz.underlying27 info_mtz (by decide) (by decide) (by kernel_rfl)) ?_
 intro G_17 w_18 hG rG bG
 have hprev := st7.go HS7.out (bG.mono hG)
 obtain ⟨S8, hSd⟩ : ∃ S : World → Prop, S = (fun W => S7 W ∧ Row W G_17 47 (mtsC [mvE G_8]).toArray) := ⟨_, rfl⟩
 have st8 : St S8 := by rw [hSd]; infer_instance
 have D8 : Hid (∀ W, S8 W → S7 W) := by show ∀ W, _; rw [hSd]; exact fun W h => h.1
 have F_M1 : Hid (∀ W, S8 W → Row W G_17 47 (mtsC [mvE G_8]).toArray) := by show ∀ W, _; rw [hSd]; exact fun W h => h.2
 have HS8 : Hid (S8 w_18) := by show S8 w_18; rw [hSd]; exact ⟨hprev, rG⟩
 clear hSd
 clear hprev HS7 hG rG bG
 go_wp2_with (refine at_alloc _ rfl ?_)
 refine Stop.to ?_
 refine wpList_alloc_gen rfl 31 rfl _ _ (zero_cp _) rfl ?_
 intro G_19 w_20 hG rG bG
 go_wp2_with (refine at_store _ _ _ rfl ?_)
 refine Stop.to ?_
 refine wpList_store_gen rfl 31 _ _ rfl G_19 #[.int .i64 1, .slice (some ⟨G_1, 0, none⟩) 1 1, .slice (some ⟨G_3, 0, none⟩) 3 3, .slice (some ⟨G_15, 0, none⟩) 1 1, .int .i64 9, .slice (some ⟨G_17, 0, none⟩) 1 1, .int .i64 1, .int .i64 0, .int .i64 0] rfl rfl 31 _ rG (by kernel_rfl) rfl (by simp [Value.oneCell']) ?_
 intro w_21 rH oH
 have bH : Below (w_18).heap.size w_18 w_21 := (bG.mono hG).trans (oH.below hG)
 have hprev := st8.go HS8.out (bH)
 obtain ⟨S9, hSd⟩ : ∃ S : World → Prop, S = (fun W => S8 W ∧ Row W G_19 31 #[.int .i64 1, .slice (some ⟨G_1, 0, none⟩) 1 1, .slice (some ⟨G_3, 0, none⟩) 3 3, .slice (some ⟨G_15, 0, none⟩) 1 1, .int .i64 9, .slice (some ⟨G_17, 0, none⟩) 1 1, .int .i64 1, .int .i64 0, .int .i64 0]) := ⟨_, rfl⟩
 have st9 : St S9 := by rw [hSd]; infer_instance
 have D9 : Hid (∀ W, S9 W → S8 W) := by show ∀ W, _; rw [hSd]; exact fun W h => h.1
 have F_C : Hid (∀ W, S9 W → Row W G_19 31 #[.int .i64 1, .slice (some ⟨G_1, 0, none⟩) 1 1, .slice (some ⟨G_3, 0, none⟩) 3 3, .slice (some ⟨G_15, 0, none⟩) 1 1, .int .i64 9, .slice (some ⟨G_17, 0, none⟩) 1 1, .int .i64 1, .int .i64 0, .int .i64 0]) := by show ∀ W, _; rw [hSd]; exact fun W h => h.2
 have HS9 : Hid (S9 w_21) := by show S9 w_21; rw [hSd]; exact ⟨hprev, rH⟩
 clear hSd
 clear hprev HS8 hG rG bG rH oH bH
 have F_okc : Hid (∀ W, S9 W → CpOk W (cE G_1 G_3 G_8 G_13 G_15 G_17)) := by show ∀ W, _; exact fun W hW => cE_ok (F_v1.out _ (D2.out _ (D3.out _ (D4.out _ (D5.out _ (D6.out _ (D7.out _ (D8.out _ (D9.out _ hW))))))))) (F_n1.out _ (D3.out _ (D4.out _ (D5.out _ (D6.out _ (D7.out _ (D8.out _ (D9.out _ hW)))))))) (F_d1.out _ (D5.out _ (D6.out _ (D7.out _ (D8.out _ (D9.out _ hW)))))) (F_t1.out _ (D7.out _ (D8.out _ (D9.out _ hW)))) (F_T1.out _ (D8.out _ (D9.out _ hW))) (F_M1.out _ (D9.out _ hW))
 have F_okz : Hid (∀ W, S9 W → CpOk W (zE G_1 G_3 G_8 G_13 G_15 G_17)) := by show ∀ W, _; exact fun W hW => zE_ok (F_v1.out _ (D2.out _ (D3.out _ (D4.out _ (D5.out _ (D6.out _ (D7.out _ (D8.out _ (D9.out _ hW))))))))) (F_n1.out _ (D3.out _ (D4.out _ (D5.out _ (D6.out _ (D7.out _ (D8.out _ (D9.out _ hW)))))))) (F_d1.out _ (D5.out _ (D6.out _ (D7.out _ (D8.out _ (D9.out _ hW)))))) (F_t1.out _ (D7.out _ (D8.out _ (D9.out _ hW)))) (F_T1.out _ (D8.out _ (D9.out _ hW))) (F_M1.out _ (D9.out _ hW))
 go_wp2_with (first | (refine wpList_load_row rfl 31 _ rfl G_19 rfl 31 #[.int .i64 1, .slice (some ⟨G_1, 0, none⟩) 1 1, .slice (some ⟨G_3, 0, none⟩) 3 3, .slice (some ⟨G_15, 0, none⟩) 1 1, .int .i64 9, .slice (some ⟨G_17, 0, none⟩) 1 1, .int .i64 1, .int .i64 0, .int .i64 0] (0, 0) _ (F_C.out _ HS9.out) Tryz.underlying31 rfl (by kernel_rfl) ?_) | (refine at_alloc _ rfl ?_))
 refine Stop.to ?_
 refine wpList_alloc_gen rfl 31 rfl _ _ (zero_cp _) rfl ?_
 intro G_22 w_23 hG rG bG
 go_wp2_with (refine at_store _ _ _ rfl ?_)
 refine Stop.to ?_
 refine wpList_store_gen rfl 31 _ _ rfl G_22 #[.int .i64 1, .slice (some ⟨G_1, 0, none⟩) 1 1, .slice (some ⟨G_3, 0, none⟩) 3 3, .slice (some ⟨G_15, 0, none⟩) 1 1, .int .i64 9, .slice (some ⟨G_17, 0, none⟩) 1 1, .int .i64 1, .int .i64 0, .int .i64 0] rfl rfl 31 _ rG (by kernel_rfl) rfl (by simp [Value.oneCell']) ?_
 intro w_24 rH oH
 go_wp2_with (refine at_store _ _ _ rfl ?_)
 refine Stop.to ?_
 refine wpList_store_part rfl 29 _ _ rfl G_22 6 rfl (.agg #[.int .i64 0, .int .i64 0, .int .i64 0]) rfl [.int .i64 0, .int .i64 0, .int .i64 0] rfl 31 _ #[.int .i64 1, .slice (some ⟨G_1, 0, none⟩) 1 1, .slice (some ⟨G_3, 0, none⟩) 3 3, .slice (some ⟨G_15, 0, none⟩) 1 1, .int .i64 9, .slice (some ⟨G_17, 0, none⟩) 1 1, .int .i64 0, .int .i64 0, .int .i64 0] rH (by kernel_rfl) (by show 6 + 3 ≤ 9; omega) (by simp [Value.oneCell']) rfl ?_
 intro w_25 rI oI
 have bH : Below (w_21).heap.size w_21 w_25 := ((bG.mono hG).trans (oH.below hG)).trans (oI.below hG)
 have hprev := st9.go HS9.out (bH)
 obtain ⟨S10, hSd⟩ : ∃ S : World → Prop, S = (fun W => S9 W ∧ Row W G_22 31 #[.int .i64 1, .slice (some ⟨G_1, 0, none⟩) 1 1, .slice (some ⟨G_3, 0, none⟩) 3 3, .slice (some ⟨G_15, 0, none⟩) 1 1, .int .i64 9, .slice (some ⟨G_17, 0, none⟩) 1 1, .int .i64 0, .int .i64 0, .int .i64 0]) := ⟨_, rfl⟩
 have st10 : St S10 := by rw [hSd]; infer_instance
 have D10 : Hid (∀ W, S10 W → S9 W) := by show ∀ W, _; rw [hSd]; exact fun W h => h.1
 have F_D : Hid (∀ W, S10 W → Row W G_22 31 #[.int .i64 1, .slice (some ⟨G_1, 0, none⟩) 1 1, .slice (some ⟨G_3, 0, none⟩) 3 3, .slice (some ⟨G_15, 0, none⟩) 1 1, .int .i64 9, .slice (some ⟨G_17, 0, none⟩) 1 1, .int .i64 0, .int .i64 0, .int .i64 0]) := by show ∀ W, _; rw [hSd]; exact fun W h => h.2
 have HS10 : Hid (S10 w_25) := by show S10 w_25; rw [hSd]; exact ⟨hprev, rI⟩
 clear hSd
 clear hprev HS9 hG rG bG rH oH rI oI bH
 go_wp2_with fail
 refine (putScore_any ⟨1, 2, 3⟩ w_25).mono ?_
 rintro e w_26 ⟨rfl, bb⟩
 rw [putSc_E]
 dsimp only
 have hprev := st10.go HS10.out (bb)
 replace HS10 := Lib.hid hprev
 clear hprev bb
 go_wp2_with fail
 refine (getScore_any [1, 2, 3] w_26 (by decide)).mono ?_
 rintro e w_27 ⟨rfl, bb⟩
 rw [getSc_E]
 dsimp only
 have hprev := st10.go HS10.out (bb)
 replace HS10 := Lib.hid hprev
 clear hprev bb
 go_wp2_with (refine at_alloc _ rfl ?_)
 refine Stop.to ?_
 refine wpList_alloc_gen rfl 29 rfl _ _ (zero_score _) rfl ?_
 intro G_28 w_29 hG rG bG
 go_wp2_with (refine at_store _ _ _ rfl ?_)
 refine Stop.to ?_
 refine wpList_store_gen rfl 29 _ _ rfl G_28 #[.int .i64 1, .int .i64 2, .int .i64 3] rfl rfl 29 _ rG (by kernel_rfl) rfl (by simp [Value.oneCell']) ?_
 intro w_30 rH oH
 have bH : Below (w_27).heap.size w_27 w_30 := (bG.mono hG).trans (oH.below hG)
 have hprev := st10.go HS10.out (bH)
 obtain ⟨S11, hSd⟩ : ∃ S : World → Prop, S = (fun W => S10 W ∧ Row W G_28 29 #[.int .i64 1, .int .i64 2, .int .i64 3]) := ⟨_, rfl⟩
 have st11 : St S11 := by rw [hSd]; infer_instance
 have D11 : Hid (∀ W, S11 W → S10 W) := by show ∀ W, _; rw [hSd]; exact fun W h => h.1
 have F_X : Hid (∀ W, S11 W → Row W G_28 29 #[.int .i64 1, .int .i64 2, .int .i64 3]) := by show ∀ W, _; rw [hSd]; exact fun W h => h.2
 have HS11 : Hid (S11 w_30) := by show S11 w_30; rw [hSd]; exact ⟨hprev, rH⟩
 clear hSd
 clear hprev HS10 hG rG bG rH oH bH
 have c5 := (F_C.out _ (D10.out _ (D11.out _ HS11.out))).cellv (i := 5) (v := .slice (some ⟨G_17, 0, none⟩) 1 1) rfl
 go_wp2_with fail
 refine (putMuts_any (some ⟨G_17, 0, none⟩) 1 1 [mvE G_8] w_30 rfl (rd_row0 (F_M1.out _ (D9.out _ (D10.out _ (D11.out _ HS11.out))))) (fun x hx => by rw [List.mem_singleton.1 hx]; exact mvE_ok (F_d1.out _ (D5.out _ (D6.out _ (D7.out _ (D8.out _ (D9.out _ (D10.out _ (D11.out _ HS11.out))))))))) (fun x hx => by rw [List.mem_singleton.1 hx]; exact ⟨inI0, inI0⟩) (by omega)).mono ?_
 rintro e w_31 ⟨rfl, bb⟩
 rw [show [mvE G_8].map MtV.m = [mE] from rfl, putMts_E]
 dsimp only
 have hprev := st11.go HS11.out (bb)
 replace HS11 := Lib.hid hprev
 clear hprev bb
 clear c5
 go_wp2_with fail
 refine (getMuts_any uE w_31 uE_len).mono ?_
 rintro e w_32 ⟨A, n, cap, l, hg⟩
 have he := hg.ee
 have Hm : Hid (l.map MtV.m = [mE]) := by show _ = _; rw [hg.mm, getMts_E]
 have Hnl : Hid (n = l.length) := hg.nn
 rw [getMts_E] at he
 subst he
 have hprev := st11.go HS11.out (hg.b)
 obtain ⟨S12, hSd⟩ : ∃ S : World → Prop, S = (fun W => S11 W ∧ Rd W A (mtsC l) ∧ ∀ x ∈ l, MtT W x) := ⟨_, rfl⟩
 have st12 : St S12 := by rw [hSd]; infer_instance
 have D12 : Hid (∀ W, S12 W → S11 W) := by show ∀ W, _; rw [hSd]; exact fun W h => h.1
 have F_rl : Hid (∀ W, S12 W → Rd W A (mtsC l)) := by show ∀ W, _; rw [hSd]; exact fun W h => h.2.1
 have F_tl : Hid (∀ W, S12 W → ∀ x ∈ l, MtT W x) := by show ∀ W, _; rw [hSd]; exact fun W h => h.2.2
 have HS12 : Hid (S12 w_32) := by show S12 w_32; rw [hSd]; exact ⟨hprev, hg.rd, hg.t⟩
 clear hSd
 clear hprev HS11 hg
 go_wp2_with fail
 refine (putMuts_any none 0 0 [] w_32 rfl (Rd.nil _ _) (fun x hx => by cases hx) (fun x hx => by cases hx) (by omega)).mono ?_
 rintro e w_33 ⟨rfl, bb⟩
 rw [show ([] : List MtV).map MtV.m = [] from rfl, putMts_0]
 dsimp only
 have hprev := st12.go HS12.out (bb)
 replace HS12 := Lib.hid hprev
 clear hprev bb
 have c5 := (F_C.out _ (D10.out _ (D11.out _ (D12.out _ HS12.out)))).cellv (i := 5) (v := .slice (some ⟨G_17, 0, none⟩) 1 1) rfl
 go_wp2_with fail
 refine (refAllMuts_any A (some ⟨G_17, 0, none⟩) cap 1 n 1 l [mvE G_8] w_33 Hnl.out rfl (F_rl.out _ HS12.out) (rd_row0 (F_M1.out _ (D9.out _ (D10.out _ (D11.out _ (D12.out _ HS12.out)))))) (fun x hx => ((F_tl.out _ HS12.out) x hx).1) (fun x hx => by rw [List.mem_singleton.1 hx]; exact mvE_ok (F_d1.out _ (D5.out _ (D6.out _ (D7.out _ (D8.out _ (D9.out _ (D10.out _ (D11.out _ (D12.out _ HS12.out)))))))))) (by have h9 := congrArg List.length Hm.out; simp at h9; omega)).mono ?_
 rintro e w_34 ⟨rfl, bb⟩
 rw [show decide (l.map MtV.m = [mvE G_8].map MtV.m) = true from decide_eq_true Hm.out]
 have hprev := st12.go HS12.out (bb)
 replace HS12 := Lib.hid hprev
 clear hprev bb
 clear c5
 go_wp2_with (refine wpList_load_row rfl 31 _ rfl G_19 rfl 31 #[.int .i64 1, .slice (some ⟨G_1, 0, none⟩) 1 1, .slice (some ⟨G_3, 0, none⟩) 3 3, .slice (some ⟨G_15, 0, none⟩) 1 1, .int .i64 9, .slice (some ⟨G_17, 0, none⟩) 1 1, .int .i64 1, .int .i64 0, .int .i64 0] (0, 0) _ (F_C.out _ (D10.out _ (D11.out _ (D12.out _ HS12.out)))) Tryz.underlying31 rfl (by kernel_rfl) ?_)
 refine (cpCheck_any (cE G_1 G_3 G_8 G_13 G_15 G_17) w_34 (F_okc.out _ (D10.out _ (D11.out _ (D12.out _ HS12.out))))).mono ?_
 rintro e w_35 ⟨rfl, bb⟩
 rw [okC.2 (okE G_1 G_3 G_8 G_13 G_15 G_17)]
 have hprev := st12.go HS12.out (bb)
 replace HS12 := Lib.hid hprev
 clear hprev bb
 go_wp2_with (refine wpList_load_rowG rfl 31 _ rfl G_22 rfl 31 #[.int .i64 1, .slice (some ⟨G_1, 0, none⟩) 1 1, .slice (some ⟨G_3, 0, none⟩) 3 3, .slice (some ⟨G_15, 0, none⟩) 1 1, .int .i64 9, .slice (some ⟨G_17, 0, none⟩) 1 1, .int .i64 0, .int .i64 0, .int .i64 0] (0, 0) _ (F_D.out _ (D11.out _ (D12.out _ HS12.out))) Tryz.underlying31 rfl (by kernel_rfl) ?_)
 refine (cpCheck_any (zE G_1 G_3 G_8 G_13 G_15 G_17) w_35 (F_okz.out _ (D10.out _ (D11.out _ (D12.out _ HS12.out))))).mono ?_
 rintro e w_36 ⟨rfl, bb⟩
 rw [zE_chk]
 have hprev := st12.go HS12.out (bb)
 replace HS12 := Lib.hid hprev
 clear hprev bb
 go_wp2_with fail
 refine (cpCheck_any cp0 w_36 (cp0_ok _)).mono ?_
 rintro e w_37 ⟨rfl, bb⟩
 rw [cp0_chk]
 have hprev := st12.go HS12.out (bb)
 replace HS12 := Lib.hid hprev
 clear hprev bb
 go_wp2_with (first | (refine wpList_load_rowG rfl 29 _ rfl G_28 rfl 29 #[.int .i64 1, .int .i64 2, .int .i64 3] (0, 0) _ (F_X.out _ (D12.out _ HS12.out)) Tryz.underlying29 rfl (by kernel_rfl) ?_) | (refine wpList_load_rowG rfl 31 _ rfl G_19 rfl 31 #[.int .i64 1, .slice (some ⟨G_1, 0, none⟩) 1 1, .slice (some ⟨G_3, 0, none⟩) 3 3, .slice (some ⟨G_15, 0, none⟩) 1 1, .int .i64 9, .slice (some ⟨G_17, 0, none⟩) 1 1, .int .i64 1, .int .i64 0, .int .i64 0] (0, 0) _ (F_C.out _ (D10.out _ (D11.out _ (D12.out _ HS12.out)))) Tryz.underlying31 rfl (by kernel_rfl) ?_))
 refine (cpSame_any (cE G_1 G_3 G_8 G_13 G_15 G_17) (cE G_1 G_3 G_8 G_13 G_15 G_17) w_37 (F_okc.out _ (D10.out _ (D11.out _ (D12.out _ HS12.out)))) (F_okc.out _ (D10.out _ (D11.out _ (D12.out _ HS12.out))))).mono ?_
 rintro e w_38 ⟨rfl, bb⟩
 rw [show sameC (cE G_1 G_3 G_8 G_13 G_15 G_17) (cE G_1 G_3 G_8 G_13 G_15 G_17) = true from sameC_iff.2 rfl]
 have hprev := st12.go HS12.out (bb)
 replace HS12 := Lib.hid hprev
 clear hprev bb
 go_wp2_with (first | (refine wpList_load_rowG rfl 31 _ rfl G_19 rfl 31 #[.int .i64 1, .slice (some ⟨G_1, 0, none⟩) 1 1, .slice (some ⟨G_3, 0, none⟩) 3 3, .slice (some ⟨G_15, 0, none⟩) 1 1, .int .i64 9, .slice (some ⟨G_17, 0, none⟩) 1 1, .int .i64 1, .int .i64 0, .int .i64 0] (0, 0) _ (F_C.out _ (D10.out _ (D11.out _ (D12.out _ HS12.out)))) Tryz.underlying31 rfl (by kernel_rfl) ?_) | (refine wpList_load_rowG rfl 31 _ rfl G_22 rfl 31 #[.int .i64 1, .slice (some ⟨G_1, 0, none⟩) 1 1, .slice (some ⟨G_3, 0, none⟩) 3 3, .slice (some ⟨G_15, 0, none⟩) 1 1, .int .i64 9, .slice (some ⟨G_17, 0, none⟩) 1 1, .int .i64 0, .int .i64 0, .int .i64 0] (0, 0) _ (F_D.out _ (D11.out _ (D12.out _ HS12.out))) Tryz.underlying31 rfl (by kernel_rfl) ?_))
 refine (cpSame_any (cE G_1 G_3 G_8 G_13 G_15 G_17) (zE G_1 G_3 G_8 G_13 G_15 G_17) w_38 (F_okc.out _ (D10.out _ (D11.out _ (D12.out _ HS12.out)))) (F_okz.out _ (D10.out _ (D11.out _ (D12.out _ HS12.out))))).mono ?_
 rintro e w_39 ⟨rfl, bb⟩
 rw [zE_same]
 have hprev := st12.go HS12.out (bb)
 replace HS12 := Lib.hid hprev
 clear hprev bb
 go_wp2_with fail
 go_ret
 exact ⟨rfl, (F_low.out _ (D1.out _ (D2.out _ (D3.out _ (D4.out _ (D5.out _ (D6.out _ (D7.out _ (D8.out _ (D9.out _ (D10.out _ (D11.out _ (D12.out _ HS12.out)))))))))))))⟩
end Go.Proofs.YtcgglolckkeeiaaGreat
namespace Go.Proofs.YtcgglolckkeeiaaGreat
open Go.ChangeShapes Go.WideShapes Go.RowKit Go.Deep
structure MtsV where
 A : Option Addr
 cap : Nat
 l : List MtV
def MtsV.val (x : MtsV) : Value := .slice x.A x.l.length x.cap
structure MtsRaw (W : World) (x : MtsV) : Prop where
 len : x.l.length ≤ x.cap
 cap : x.cap ≤ maxLen
 nil : x.A = none → x.cap = 0
 rd : Rd W x.A (mtsC x.l)
 all : ∀ e ∈ x.l, MtRaw W e
theorem MtsRaw.go {W W' : World} {x : MtsV} (h : MtsRaw W x) (b : Below W.heap.size W W') : MtsRaw W' x :=
 ⟨h.len, h.cap, h.nil, h.rd.go b, fun e he => ⟨(h.all e he).1.go b, (h.all e he).2⟩⟩
instance St.mtsraw {x : MtsV} : St (fun W => MtsRaw W x) := ⟨fun h b => h.go b⟩
theorem MtsRaw.ok {W : World} {x : MtsV} (h : MtsRaw W x) (hf : fewM x.l = true) : ∀ e ∈ x.l, MtOk W e := fun e he => by
 unfold fewM at hf
 rw [decide_eq_true_eq] at hf
 have h1 := hf.2 e he
 exact ⟨(h.all e he).1, by have := h1.1; omega, fun e2 => (h.all e he).none e2, by have := h1.2; omega⟩
theorem MtsRaw.int {W : World} {x : MtsV} (h : MtsRaw W x) : ∀ e ∈ x.l, InI e.m.d.n ∧ InI e.m.value := fun e he => ⟨(h.all e he).2.n, (h.all e he).2.value⟩
theorem fewM_len {l : List MtV} (h : fewM l = true) : l.length ≤ 250 := by
 unfold fewM at h
 rw [decide_eq_true_eq] at h
 exact h.1
theorem fewM_b (A : Option Addr) (cap : Nat) (l : List MtV) (w : World) (hr : Rd w A (mtsC l)) :
 Calls Tryz.prog 32 #[.slice A l.length cap] w fun e w' => e = .returned (.bool (fewM l)) ∧ Below w.heap.size w w' :=
 (fewM_any A cap l w hr).mono fun _ _ h => ⟨h.1, by rw [← h.2]; exact Below.refl _ _⟩
def ScIn (x : Sc) : Prop := InI x.alive ∧ InI x.killed ∧ InI x.timeout
theorem eql_scE (x : Sc) (W : World) : (binOp .eql 29 (.agg #[.int .i64 x.alive, .int .i64 x.killed, .int .i64 x.timeout]) (.agg #[.int .i64 x.alive, .int .i64 x.killed, .int .i64 x.timeout])).run Tryz.prog W = .ok (.bool true) W := by
 simp [go_sem]
theorem str_list (s : ByteArray) : ∃ l : List UInt8, s = ⟨l.toArray⟩ := ⟨s.data.toList, by cases s; simp⟩
section
variable {H : Type} {enc : TypeId × Value → H} {w : World} {base : Nat} {spare : Nat → Bool} {held : Bool}
set_option maxRecDepth 100000 in
theorem open_mutsV {r : Go.Reach} {b0 : Nat} {v : Value} {d : DataW H} {p : List MemPlace} (hv : Value.okWide Tryz.prog w r b0 27 v) (h : DataW.Trod enc Tryz.prog w base spare held 27 v d p) :
 ∃ x : MtsV, MtsRaw w x ∧ v = x.val := by
 obtain ⟨A, cap, l, rfl, h1, h2, h3, h4, h5⟩ := open_muts hv h
 exact ⟨⟨A, cap, l⟩, ⟨h1, h2, h3, h4, h5⟩, rfl⟩
set_option maxRecDepth 100000 in
theorem open_scoreV {r : Go.Reach} {b0 : Nat} {v : Value} {d : DataW H} {p : List MemPlace} (hv : Value.okWide Tryz.prog w r b0 29 v) (h : DataW.Trod enc Tryz.prog w base spare held 29 v d p) :
 ∃ x : Sc, ScIn x ∧ v = .agg x.cells := by
 obtain ⟨cs, rfl, fuel, x, hx⟩ := trod_val Tryz.underlying29 hv h
 obtain ⟨s, rfl, h1, h2, h3⟩ := open_scoreC hx
 exact ⟨s, ⟨h1, h2, h3⟩, rfl⟩
end
end Go.Proofs.YtcgglolckkeeiaaGreat
namespace Go.Proofs.YtcgglolckkeeiaaGreat
open Go.RowKit Go.Deep
set_option maxRecDepth 100000 in
set_option maxHeartbeats 2000000 in
theorem refZag_any (n : Nat) (hn : n < 18446744073709551616) (w : World) :
 Calls Tryz.prog 180 #[.int .u64 (n : Int)] w fun e w' => e = .returned (.int .i64 (zagZ n)) ∧ w = w' := by
 have Hn := Lib.hid hn
 by_cases h2 : n % 2 = 0
 · have h2I : (n : Int) % 2 = 0 := by omega
   have H2 := Lib.hid h2
   clear h2 hn
   go_enter Tryz.func180, Tryz.ntmps180
   go_wp2
   go_ret
   refine ⟨ret_i64 ?_, rfl⟩
   have hlt := Hn.out
   have e : IntKind.u64.wrap ((n : Int) / 2) = (n : Int) / 2 := by rw [IntKind.wrap_u64]; omega
   rw [zagZ, if_pos H2.out, e, IntWalk.wrap64_in _ (by omega)]
   omega
 · have h2I : ¬ (n : Int) % 2 = 0 := by omega
   have H2 := Lib.hid h2
   clear h2 hn
   go_enter Tryz.func180, Tryz.ntmps180
   go_wp2
   go_ret
   refine ⟨ret_i64 ?_, rfl⟩
   have hlt := Hn.out
   have e : IntKind.u64.wrap ((n : Int) / 2) = (n : Int) / 2 := by rw [IntKind.wrap_u64]; omega
   rw [zagZ, if_neg H2.out, e, IntWalk.wrap64_in ((n : Int) / 2) (by omega), IntWalk.wrap64_in (-((n : Int) / 2)) (by omega), IntWalk.wrap64_in _ (by omega)]
   omega
def rrC (s : List UInt8) (r : Rs) : Array Value := #[.string ⟨s.toArray⟩, .int .i64 (r.pl : Int), .int .i64 r.er]
def gotC (n : Nat) (i : Int) (x : List UInt8) : Array Value := #[.int .u64 (n : Int), .int .i64 i, .string ⟨x.toArray⟩, .int .i64 0, .int .i64 0]
theorem zero_rr (w : World) : (zeroValue 131).run Tryz.prog w = .ok (.agg #[.string ⟨#[]⟩, .int .i64 0, .int .i64 0]) w := by kernel_rfl
theorem zero_got (w : World) : (zeroValue 188).run Tryz.prog w = .ok (.agg #[.int .u64 0, .int .i64 0, .string ⟨#[]⟩, .int .i64 0, .int .i64 0]) w := by kernel_rfl
set_option maxRecDepth 100000 in
set_option maxHeartbeats 4000000 in
theorem rwrong_any (s : List UInt8) (r : Rs) (e : Int) (w : World) :
 Calls Tryz.prog 177 #[.agg (rrC s r), .int .i64 e] w fun e' w' => e' = .returned (.tuple #[.agg (rrC s ⟨r.pl, e⟩), .agg (gotC 0 0 [])]) ∧ Below w.heap.size w w' := by
 obtain ⟨pl, er⟩ := r
 show Calls _ _ #[.agg #[.string ⟨s.toArray⟩, .int .i64 (pl : Int), .int .i64 er], .int .i64 e] _ _
 go_enter Tryz.func177, Tryz.ntmps177
 go_wp2_with (refine at_box _ _ rfl ?_)
 refine Stop.to ?_
 refine wpList_box_gen rfl 131 _ rfl #[.string ⟨s.toArray⟩, .int .i64 (pl : Int), .int .i64 er] rfl ?_
 intro G Gw Gh Gr Gb
 go_wp2_with (first | fail | (refine at_alloc _ rfl ?_))
 refine Stop.to ?_
 refine wpList_alloc_gen rfl 131 rfl _ _ (zero_rr _) rfl ?_
 intro R Rw Rh Rr Rb
 go_wp2_with (first | fail | (refine at_alloc _ rfl ?_))
 refine Stop.to ?_
 refine wpList_alloc_gen rfl 188 rfl _ _ (zero_got _) rfl ?_
 intro U Uw Uh Ur Ub
 have Rr' : Row Rw R 131 #[.string ⟨#[]⟩, .int .i64 0, .int .i64 0] := Rr
 have Ur' : Row Uw U 188 #[.int .u64 0, .int .i64 0, .string ⟨#[]⟩, .int .i64 0, .int .i64 0] := Ur
 have lGR : G < R := Nat.lt_of_lt_of_le Gr.lt Rh
 have lRU : R < U := Nat.lt_of_lt_of_le Rr'.lt Uh
 have rG := (Gr.below Rb lGR).below Ub (by omega)
 have rR := Rr'.below Ub lRU
 have b1 : Below w.heap.size w Uw := ((Below.refl w.heap.size w).trans (Gb.mono Gh)).trans ((Rb.mono (by omega)).trans (Ub.mono (by omega)))
 clear Gr Rr Ur Gb Rb Ub Rr'
 have f2 := rG.free 2
 have c2 := rG.cellv (i := 2) (v := .int .i64 er) rfl
 have o1 := only_set Uw G 2 (.int .i64 e)
 have rG2 : Row (Uw.setCell ⟨G, 2, none⟩ (.int .i64 e)) G 131 #[.string ⟨s.toArray⟩, .int .i64 (pl : Int), .int .i64 e] := rG.set 2 _
 have rR2 := rR.only o1 (by omega)
 have rU2 := Ur'.only o1 (by omega)
 have b2 := below_only b1 o1 (by omega)
 clear rG rR Ur' o1
 go_wp2_with (first | (refine wpList_load_row rfl 131 _ rfl G rfl 131 #[.string ⟨s.toArray⟩, .int .i64 (pl : Int), .int .i64 e] (0, 0) _ rG2 Tryz.underlying131 rfl (by kernel_rfl) ?_) | (refine at_store 131 _ _ rfl ?_))
 refine Stop.to ?_
 refine wpList_store_gen rfl 131 _ _ rfl R #[.string ⟨s.toArray⟩, .int .i64 (pl : Int), .int .i64 e] rfl rfl 131 _ rR2 (by kernel_rfl) rfl (by simp [Value.oneCell']) ?_
 intro w3 r3 o3
 have rU3 := rU2.only o3 (by omega)
 have b3 := below_only b2 o3 (by omega)
 clear rG2 rR2 rU2 b2 o3
 go_wp2_with (refine at_store 188 _ _ rfl ?_)
 refine Stop.to ?_
 refine wpList_store_gen rfl 188 _ _ rfl U #[.int .u64 0, .int .i64 0, .string ⟨#[]⟩, .int .i64 0, .int .i64 0] rfl rfl 188 _ rU3 (by kernel_rfl) rfl (by simp [Value.oneCell']) ?_
 intro w4 r4 o4
 have r3' := r3.only o4 (by omega)
 have b4 := below_only b3 o4 (by omega)
 clear rU3 r3 b3 o4
 go_wp2_with fail
 refine bodyPost_ret (results_cells2 Tryz.results177 _ _ ⟨R, 0, none⟩ ⟨U, 0, none⟩ (.agg #[.string ⟨s.toArray⟩, .int .i64 (pl : Int), .int .i64 e]) (.agg #[.int .u64 0, .int .i64 0, .string ⟨#[]⟩, .int .i64 0, .int .i64 0]) rfl rfl ?_ ?_) rfl ⟨rfl, b4⟩
 · exact run_loadVar_row _ R 131 131 _ (0, 0) _ r3' Tryz.underlying131 rfl (by kernel_rfl)
 · exact run_loadVar_row _ U 188 188 _ (0, 0) _ r4 Tryz.underlying188 rfl (by kernel_rfl)
end Go.Proofs.YtcgglolckkeeiaaGreat
namespace Go.Proofs.YtcgglolckkeeiaaGreat
open Go.RowKit Go.Deep
set_option maxRecDepth 100000 in
set_option maxHeartbeats 4000000 in
theorem rtextR_any (s : List UInt8) (r : Rs) (at_ n : Nat) (ha : at_ ≤ s.length) (hs : s.length ≤ 1000000) (hn : n < 18446744073709551616) (w : World) :
 Calls Tryz.prog 178 #[.agg (rrC s r), .int .i64 (at_ : Int), .int .u64 (n : Int)] w fun e' w' => e' = .returned (.tuple #[.agg (rrC s (if s.length < at_ + n then ⟨r.pl, 2⟩ else ⟨at_ + n, r.er⟩)), .agg (gotC 0 0 (partP s at_ n).2.2)]) ∧ Below w.heap.size w w' := by
 obtain ⟨pl, er⟩ := r
 have hsz : (⟨s.toArray⟩ : ByteArray).size = s.length := by simp [ByteArray.size]
 have haI : (at_ : Int) ≤ (s.length : Int) := by omega
 have hsI : (s.length : Int) ≤ 1000000 := by omega
 have hw : IntKind.u64.wrap ((s.length : Int) - (at_ : Int)) = (s.length : Int) - (at_ : Int) := by rw [IntKind.wrap_u64]; omega
 show Calls _ _ #[.agg #[.string ⟨s.toArray⟩, .int .i64 (pl : Int), .int .i64 er], .int .i64 (at_ : Int), .int .u64 (n : Int)] _ _
 by_cases hc : s.length < at_ + n
 · rw [if_pos hc, partP, if_pos hc]
   have hcI : (s.length : Int) - (at_ : Int) < (n : Int) := by omega
   have HW := Lib.hid (rwrong_any s ⟨pl, er⟩ 2)
   clear hc ha hs hn
   go_enter Tryz.func178, Tryz.ntmps178
   go_wp2_with (refine at_box _ _ rfl ?_)
   refine Stop.to ?_
   refine wpList_box_gen rfl 131 _ rfl #[.string ⟨s.toArray⟩, .int .i64 (pl : Int), .int .i64 er] rfl ?_
   intro G Gw Gh Gr Gb
   go_wp2_with (first | fail | (refine at_alloc _ rfl ?_))
   refine Stop.to ?_
   refine wpList_alloc_gen rfl 131 rfl _ _ (zero_rr _) rfl ?_
   intro R Rw Rh Rr Rb
   go_wp2_with (first | fail | (refine at_alloc _ rfl ?_))
   refine Stop.to ?_
   refine wpList_alloc_gen rfl 188 rfl _ _ (zero_got _) rfl ?_
   intro U Uw Uh Ur Ub
   have Rr' : Row Rw R 131 #[.string ⟨#[]⟩, .int .i64 0, .int .i64 0] := Rr
   have Ur' : Row Uw U 188 #[.int .u64 0, .int .i64 0, .string ⟨#[]⟩, .int .i64 0, .int .i64 0] := Ur
   have lGR : G < R := Nat.lt_of_lt_of_le Gr.lt Rh
   have lRU : R < U := Nat.lt_of_lt_of_le Rr'.lt Uh
   have rG := (Gr.below Rb lGR).below Ub (by omega)
   have rR := Rr'.below Ub lRU
   have b1 : Below w.heap.size w Uw := ((Below.refl w.heap.size w).trans (Gb.mono Gh)).trans ((Rb.mono (by omega)).trans (Ub.mono (by omega)))
   clear Gr Rr Ur Gb Rb Ub Rr'
   have c0 := rG.cellv (i := 0) (v := .string ⟨s.toArray⟩) rfl
   go_wp2_with (refine wpList_load_row rfl 131 _ rfl G rfl 131 #[.string ⟨s.toArray⟩, .int .i64 (pl : Int), .int .i64 er] (0, 0) _ rG Tryz.underlying131 rfl (by kernel_rfl) ?_)
   refine (HW.out Uw).mono ?_
   rintro e w3 ⟨rfl, b3⟩
   replace rR := rR.below b3 rR.lt
   have rU := Ur'.below b3 Ur'.lt
   have bb := b1.trans (b3.mono b1.size)
   clear b1 b3 Ur' rG c0
   dsimp only [rrC, gotC]
   go_wp2_with (refine at_store 131 _ _ rfl ?_)
   refine Stop.to ?_
   refine wpList_store_gen rfl 131 _ _ rfl R #[.string ⟨s.toArray⟩, .int .i64 (pl : Int), .int .i64 2] rfl rfl 131 _ rR (by kernel_rfl) rfl (by simp [Value.oneCell']) ?_
   intro w8 r8 o8
   have rU8 := rU.only o8 (by omega)
   have b8 := below_only bb o8 (by omega)
   clear rU bb o8
   go_wp2_with (refine at_store 188 _ _ rfl ?_)
   refine Stop.to ?_
   refine wpList_store_gen rfl 188 _ _ rfl U #[.int .u64 0, .int .i64 0, .string ⟨#[]⟩, .int .i64 0, .int .i64 0] rfl rfl 188 _ rU8 (by kernel_rfl) rfl (by simp [Value.oneCell']) ?_
   intro w9 r9 o9
   have r9' := r8.only o9 (by omega)
   have b9 := below_only b8 o9 (by omega)
   clear rU8 r8 b8 o9
   go_wp2_with fail
   refine bodyPost_ret (results_cells2 Tryz.results178 _ _ ⟨R, 0, none⟩ ⟨U, 0, none⟩ (.agg #[.string ⟨s.toArray⟩, .int .i64 (pl : Int), .int .i64 2]) (.agg #[.int .u64 0, .int .i64 0, .string ⟨#[]⟩, .int .i64 0, .int .i64 0]) rfl rfl ?_ ?_) rfl ⟨rfl, b9⟩
   · exact run_loadVar_row _ R 131 131 _ (0, 0) _ r9' Tryz.underlying131 rfl (by kernel_rfl)
   · exact run_loadVar_row _ U 188 188 _ (0, 0) _ r9 Tryz.underlying188 rfl (by kernel_rfl)
 · rw [if_neg hc, partP, if_neg hc]
   have hcI : ¬ (s.length : Int) - (at_ : Int) < (n : Int) := by omega
   have hwn : wrap64 (n : Int) = (n : Int) := IntWalk.wrap64_in _ (by omega)
   obtain ⟨m, hm⟩ : ∃ m : Nat, m = at_ + n := ⟨_, rfl⟩
   have hmI : (at_ : Int) + (n : Int) = (m : Int) := by omega
   have hml : (m : Int) ≤ (s.length : Int) := by omega
   have ham : (at_ : Int) ≤ (m : Int) := by omega
   have hext := str_ext s at_ m
   rw [show m - at_ = n by omega] at hext
   rw [← hm]
   obtain ⟨x, hx⟩ : ∃ x, x = (s.drop at_).take n := ⟨_, rfl⟩
   rw [← hx] at hext
   show Calls _ _ _ _ (fun e' w' => e' = .returned (.tuple #[.agg (rrC s ⟨m, er⟩), .agg (gotC 0 0 ((s.drop at_).take n))]) ∧ Below w.heap.size w w')
   rw [← hx]
   clear hc ha hs hn hm hx
   go_enter Tryz.func178, Tryz.ntmps178
   go_wp2_with (refine at_box _ _ rfl ?_)
   refine Stop.to ?_
   refine wpList_box_gen rfl 131 _ rfl #[.string ⟨s.toArray⟩, .int .i64 (pl : Int), .int .i64 er] rfl ?_
   intro G Gw Gh Gr Gb
   go_wp2_with (first | fail | (refine at_alloc _ rfl ?_))
   refine Stop.to ?_
   refine wpList_alloc_gen rfl 131 rfl _ _ (zero_rr _) rfl ?_
   intro R Rw Rh Rr Rb
   go_wp2_with (first | fail | (refine at_alloc _ rfl ?_))
   refine Stop.to ?_
   refine wpList_alloc_gen rfl 188 rfl _ _ (zero_got _) rfl ?_
   intro U Uw Uh Ur Ub
   have Rr' : Row Rw R 131 #[.string ⟨#[]⟩, .int .i64 0, .int .i64 0] := Rr
   have Ur' : Row Uw U 188 #[.int .u64 0, .int .i64 0, .string ⟨#[]⟩, .int .i64 0, .int .i64 0] := Ur
   have lGR : G < R := Nat.lt_of_lt_of_le Gr.lt Rh
   have lRU : R < U := Nat.lt_of_lt_of_le Rr'.lt Uh
   have rG := (Gr.below Rb lGR).below Ub (by omega)
   have rR := Rr'.below Ub lRU
   have b1 : Below w.heap.size w Uw := ((Below.refl w.heap.size w).trans (Gb.mono Gh)).trans ((Rb.mono (by omega)).trans (Ub.mono (by omega)))
   clear Gr Rr Ur Gb Rb Ub Rr'
   have c0 := rG.cellv (i := 0) (v := .string ⟨s.toArray⟩) rfl
   go_wp2_with (refine at_alloc _ rfl ?_)
   refine Stop.to ?_
   refine wpList_alloc_gen rfl 188 rfl _ _ (zero_got _) rfl ?_
   intro N Nw Nh Nr Nb
   have Nr' : Row Nw N 188 #[.int .u64 0, .int .i64 0, .string ⟨#[]⟩, .int .i64 0, .int .i64 0] := Nr
   have lUN : U < N := Nat.lt_of_lt_of_le Ur'.lt Nh
   replace rG := rG.below Nb (by omega)
   replace rR := rR.below Nb (by omega)
   have rU := Ur'.below Nb (by omega)
   have b2 := b1.trans (Nb.mono (by have := b1.size; omega))
   clear Nr Nb b1 Ur' c0
   go_wp2_with (refine at_store 188 _ _ rfl ?_)
   refine Stop.to ?_
   refine wpList_store_gen rfl 188 _ _ rfl N #[.int .u64 0, .int .i64 0, .string ⟨x.toArray⟩, .int .i64 0, .int .i64 0] rfl rfl 188 _ Nr' (by kernel_rfl) rfl (by simp [Value.oneCell']) ?_
   intro w4 rN o4
   replace rG := rG.only o4 (by omega)
   replace rR := rR.only o4 (by omega)
   replace rU := rU.only o4 (by omega)
   replace b2 := below_only b2 o4 (by omega)
   clear Nr' o4
   have c1 := rG.cellv (i := 1) (v := .int .i64 (pl : Int)) rfl
   have f1 := rG.free 1
   have o5 := only_set w4 G 1 (.int .i64 (m : Int))
   go_wp2_with fail
   have rG5 : Row (w4.setCell ⟨G, 1, none⟩ (.int .i64 (m : Int))) G 131 #[.string ⟨s.toArray⟩, .int .i64 (m : Int), .int .i64 er] := rG.set 1 _
   replace rR := rR.only o5 (by omega)
   replace rU := rU.only o5 (by omega)
   replace rN := rN.only o5 (by omega)
   replace b2 := below_only b2 o5 (by omega)
   obtain ⟨S, hSd⟩ : ∃ S, S = (fun W => Row W G 131 #[.string ⟨s.toArray⟩, .int .i64 (m : Int), .int .i64 er] ∧ Row W N 188 #[.int .u64 0, .int .i64 0, .string ⟨x.toArray⟩, .int .i64 0, .int .i64 0] ∧ Below w.heap.size w W) := ⟨_, rfl⟩
   have stS : St S := by rw [hSd]; infer_instance
   have T0 : Hid (∀ W, S W → Row W G 131 #[.string ⟨s.toArray⟩, .int .i64 (m : Int), .int .i64 er]) := by show ∀ W, _; rw [hSd]; exact fun W h => h.1
   have T1 : Hid (∀ W, S W → Row W N 188 #[.int .u64 0, .int .i64 0, .string ⟨x.toArray⟩, .int .i64 0, .int .i64 0]) := by show ∀ W, _; rw [hSd]; exact fun W h => h.2.1
   have T4 : Hid (∀ W, S W → Below w.heap.size w W) := by show ∀ W, _; rw [hSd]; exact fun W h => h.2.2
   have SMK : Hid (∀ W, Row W G 131 #[.string ⟨s.toArray⟩, .int .i64 (m : Int), .int .i64 er] → Row W N 188 #[.int .u64 0, .int .i64 0, .string ⟨x.toArray⟩, .int .i64 0, .int .i64 0] → Below w.heap.size w W → S W) := by show ∀ W, _; rw [hSd]; exact fun W h h2 h3 => ⟨h, h2, h3⟩
   have hS := St.drew (SMK.out _ rG5 rN b2)
   replace rR := rR.drew
   replace rU := rU.drew
   clear hSd rG rG5 rN b2 c1 f1 o5
   refine wp_region_held (S := S) (by kernel_rfl) ?_
   simp only [List.size_toArray, List.length_cons, List.length_nil, Nat.reduceAdd, Array.replicate_succ, Array.replicate_zero, List.push_toArray, List.nil_append, List.cons_append]
   show wpAnyH _ _ _ _ _ _ _ _ (w4.setCell ⟨G, 1, none⟩ (.int .i64 (m : Int))).drew
   generalize (w4.setCell ⟨G, 1, none⟩ (.int .i64 (m : Int))).drew = w5 at hS rR rU ⊢
   (refine takeH (i := 0) (v := _) rfl (by kernel_rfl) (by kernel_rfl) (by kernel_rfl) (fun _ _ _ h => h) ((yields_row rfl 131 _ rfl G rfl 131 #[.string ⟨s.toArray⟩, .int .i64 (m : Int), .int .i64 er] _ T0.out Tryz.underlying131 rfl (by kernel_rfl))) (by assumption) ?_; simp only [Act.put, List.setIfInBounds_toArray, List.set_cons_zero, List.set_cons_succ])
   (refine takeH (i := 1) (v := _) rfl (by kernel_rfl) (by kernel_rfl) (by kernel_rfl) (fun _ _ _ h => h) ((yields_row rfl 188 _ rfl N rfl 188 #[.int .u64 0, .int .i64 0, .string ⟨x.toArray⟩, .int .i64 0, .int .i64 0] _ T1.out Tryz.underlying188 rfl (by kernel_rfl))) (by assumption) ?_; simp only [Act.put, List.setIfInBounds_toArray, List.set_cons_zero, List.set_cons_succ])
   (refine wpAnyH_all (rs := [2]) (by kernel_rfl) (by simp) (fun i hi => ?_); obtain rfl : i = 2 := by simpa using hi)
   refine wpOp_plain rfl rfl (fun K2 hK2 => ?_)
   refine wp_store_gen 131 _ _ rfl R #[.string ⟨s.toArray⟩, .int .i64 (m : Int), .int .i64 er] rfl rfl 131 _ rR (by kernel_rfl) rfl (by simp [Value.oneCell']) ?_
   intro w6 rR6 o6
   refine hK2 _ _ ?_
   clear hK2 K2
   simp only [Act.put, List.setIfInBounds_toArray, List.set_cons_zero, List.set_cons_succ]
   have hS6 : S w6 := SMK.out _ ((T0.out _ hS).only o6 (by omega)) ((T1.out _ hS).only o6 (by omega)) (below_only (T4.out _ hS) o6 (by omega))
   have rU6 := rU.only o6 (by omega)
   refine ⟨hS6, ?_⟩
   (refine wpAnyH_all (rs := [3]) (by kernel_rfl) (by simp) (fun i hi => ?_); obtain rfl : i = 3 := by simpa using hi)
   refine wpOp_plain rfl rfl (fun K2 hK2 => ?_)
   refine wp_store_gen 188 _ _ rfl U #[.int .u64 0, .int .i64 0, .string ⟨x.toArray⟩, .int .i64 0, .int .i64 0] rfl rfl 188 _ rU6 (by kernel_rfl) rfl (by simp [Value.oneCell']) ?_
   intro w7 rU7 o7
   refine hK2 _ _ ?_
   clear hK2 K2
   simp only [Act.put, List.setIfInBounds_toArray, List.set_cons_zero, List.set_cons_succ]
   have hS7 : S w7 := SMK.out _ ((T0.out _ hS6).only o7 (by omega)) ((T1.out _ hS6).only o7 (by omega)) (below_only (T4.out _ hS6) o7 (by omega))
   have rR7 := rR6.only o7 (by omega)
   refine ⟨hS7, ?_⟩
   refine wpAnyH_done (by kernel_rfl) ?_ _
   have bE := T4.out _ hS7
   go_wp2_with fail
   refine bodyPost_ret (results_cells2 Tryz.results178 _ _ ⟨R, 0, none⟩ ⟨U, 0, none⟩ (.agg #[.string ⟨s.toArray⟩, .int .i64 (m : Int), .int .i64 er]) (.agg #[.int .u64 0, .int .i64 0, .string ⟨x.toArray⟩, .int .i64 0, .int .i64 0]) rfl rfl ?_ ?_) rfl ⟨rfl, bE⟩
   · exact run_loadVar_row _ R 131 131 _ (0, 0) _ rR7 Tryz.underlying131 rfl (by kernel_rfl)
   · exact run_loadVar_row _ U 188 188 _ (0, 0) _ rU7 Tryz.underlying188 rfl (by kernel_rfl)
end Go.Proofs.YtcgglolckkeeiaaGreat
