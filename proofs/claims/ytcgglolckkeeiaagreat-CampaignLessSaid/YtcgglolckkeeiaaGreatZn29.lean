/- Lemmas for CnAll. -/
import Derived.Test.YtcgglolckkeeiaaGreatZn28
import Derived.Test.YtcgglolckkeeiaaGreatZn10
import Derived.Test.YtcgglolckkeeiaaGreatZn22
import Derived.Test.YtcgglolckkeeiaaGreatZn21
import Derived.Test.YtcgglolckkeeiaaGreatZn9
import Derived.Test.YtcgglolckkeeiaaGreatZn26
namespace Go.Proofs.YtcgglolckkeeiaaGreat
set_option linter.unusedVariables false
set_option linter.unusedSimpArgs false
open Go.RowKit Go.Deep
set_option maxRecDepth 100000 in
set_option maxHeartbeats 16000000 in
theorem works21_any (w : World) : Calls Tryz.prog 29 #[] w fun e w' => e = .returned (.bool true) ∧ Below w.heap.size w w' := by
 go_enter Tryz.func29, Tryz.ntmps29
 obtain ⟨S0, hSd⟩ : ∃ S : World → Prop, S = (fun W => Below w.heap.size w W) := ⟨_, rfl⟩
 have st0 : St S0 := by rw [hSd]; infer_instance
 have F_low : Hid (∀ W, S0 W → Below w.heap.size w W) := by show ∀ W, _; rw [hSd]; exact fun W h => h
 have HS0 : Hid (S0 w) := by show S0 w; rw [hSd]; exact Below.refl _ _
 clear hSd
 go_wp2_with (refine at_slice _ _ _ rfl ?_)
 refine Stop.to ?_
 refine wpList_slice_gen rfl 22 1 _ rfl 3 (ints [0]).toArray (bs_run Tryz.underlying22 info_iE (by decide) (by decide) (by kernel_rfl)) ?_
 intro G_1 w_2 hG rG bG
 have hprev := st0.go HS0.out (bG.mono hG)
 obtain ⟨S1, hSd⟩ : ∃ S : World → Prop, S = (fun W => S0 W ∧ Row W G_1 3 (ints [0]).toArray) := ⟨_, rfl⟩
 have st1 : St S1 := by rw [hSd]; infer_instance
 have D1 : Hid (∀ W, S1 W → S0 W) := by show ∀ W, _; rw [hSd]; exact fun W h => h.1
 have F_v1 : Hid (∀ W, S1 W → Row W G_1 3 (ints [0]).toArray) := by show ∀ W, _; rw [hSd]; exact fun W h => h.2
 have HS1 : Hid (S1 w_2) := by show S1 w_2; rw [hSd]; exact ⟨hprev, rG⟩
 clear hSd
 clear hprev HS0 hG rG bG
 go_wp2_with (refine at_slice _ _ _ rfl ?_)
 refine Stop.to ?_
 refine wpList_slice_gen rfl 23 3 _ rfl 74 (bodyE.flatMap Nd.cells).toArray (bs_run Tryz.underlying23 info_nE (by decide) (by decide) (by kernel_rfl)) ?_
 intro G_3 w_4 hG rG bG
 have hprev := st1.go HS1.out (bG.mono hG)
 obtain ⟨S2, hSd⟩ : ∃ S : World → Prop, S = (fun W => S1 W ∧ Row W G_3 74 (bodyE.flatMap Nd.cells).toArray) := ⟨_, rfl⟩
 have st2 : St S2 := by rw [hSd]; infer_instance
 have D2 : Hid (∀ W, S2 W → S1 W) := by show ∀ W, _; rw [hSd]; exact fun W h => h.1
 have F_n1 : Hid (∀ W, S2 W → Row W G_3 74 (bodyE.flatMap Nd.cells).toArray) := by show ∀ W, _; rw [hSd]; exact fun W h => h.2
 have HS2 : Hid (S2 w_4) := by show S2 w_4; rw [hSd]; exact ⟨hprev, rG⟩
 clear hSd
 clear hprev HS1 hG rG bG
 go_wp2_with (refine at_alloc _ rfl ?_)
 refine Stop.to ?_
 refine wpList_alloc_gen rfl 25 rfl _ _ zero_pgE rfl ?_
 intro G_5 w_6 hG rG bG
 go_wp2_with (refine at_store _ _ _ rfl ?_)
 refine Stop.to ?_
 refine wpList_store_gen rfl 25 _ _ rfl G_5 #[.int .i64 1, .slice (some ⟨G_1, 0, none⟩) 1 1, .slice (some ⟨G_3, 0, none⟩) 3 3] rfl rfl 25 _ rG (by kernel_rfl) rfl (by simp [Value.oneCell']) ?_
 intro w_7 rH oH
 have bH : Below (w_4).heap.size w_4 w_7 := (bG.mono hG).trans (oH.below hG)
 have hprev := st2.go HS2.out (bH)
 obtain ⟨S3, hSd⟩ : ∃ S : World → Prop, S = (fun W => S2 W ∧ Row W G_5 25 #[.int .i64 1, .slice (some ⟨G_1, 0, none⟩) 1 1, .slice (some ⟨G_3, 0, none⟩) 3 3]) := ⟨_, rfl⟩
 have st3 : St S3 := by rw [hSd]; infer_instance
 have D3 : Hid (∀ W, S3 W → S2 W) := by show ∀ W, _; rw [hSd]; exact fun W h => h.1
 have F_P : Hid (∀ W, S3 W → Row W G_5 25 #[.int .i64 1, .slice (some ⟨G_1, 0, none⟩) 1 1, .slice (some ⟨G_3, 0, none⟩) 3 3]) := by show ∀ W, _; rw [hSd]; exact fun W h => h.2
 have HS3 : Hid (S3 w_7) := by show S3 w_7; rw [hSd]; exact ⟨hprev, rH⟩
 clear hSd
 clear hprev HS2 hG rG bG rH oH bH
 go_wp2_with (refine at_slice _ _ _ rfl ?_)
 refine Stop.to ?_
 refine wpList_slice_gen rfl 22 1 _ rfl 3 (ints [0]).toArray (bs_run Tryz.underlying22 info_iE (by decide) (by decide) (by kernel_rfl)) ?_
 intro G_8 w_9 hG rG bG
 have hprev := st3.go HS3.out (bG.mono hG)
 obtain ⟨S4, hSd⟩ : ∃ S : World → Prop, S = (fun W => S3 W ∧ Row W G_8 3 (ints [0]).toArray) := ⟨_, rfl⟩
 have st4 : St S4 := by rw [hSd]; infer_instance
 have D4 : Hid (∀ W, S4 W → S3 W) := by show ∀ W, _; rw [hSd]; exact fun W h => h.1
 have F_d1 : Hid (∀ W, S4 W → Row W G_8 3 (ints [0]).toArray) := by show ∀ W, _; rw [hSd]; exact fun W h => h.2
 have HS4 : Hid (S4 w_9) := by show S4 w_9; rw [hSd]; exact ⟨hprev, rG⟩
 clear hSd
 clear hprev HS3 hG rG bG
 go_wp2_with (refine at_alloc _ rfl ?_)
 refine Stop.to ?_
 refine wpList_alloc_gen rfl 47 rfl _ _ (zero_mt _) rfl ?_
 intro G_10 w_11 hG rG bG
 go_wp2_with (refine at_store _ _ _ rfl ?_)
 refine Stop.to ?_
 refine wpList_store_gen rfl 47 _ _ rfl G_10 #[.slice (some ⟨G_8, 0, none⟩) 1 1, .int .i64 5, .int .i64 0, .int .i64 0, .int .i64 (-1), .int .i64 0, .int .i64 0, .string ByteArray.empty] rfl rfl 47 _ rG (by kernel_rfl) rfl (by simp [Value.oneCell']) ?_
 intro w_12 rH oH
 have bH : Below (w_9).heap.size w_9 w_12 := (bG.mono hG).trans (oH.below hG)
 have hprev := st4.go HS4.out (bH)
 obtain ⟨S5, hSd⟩ : ∃ S : World → Prop, S = (fun W => S4 W ∧ Row W G_10 47 #[.slice (some ⟨G_8, 0, none⟩) 1 1, .int .i64 5, .int .i64 0, .int .i64 0, .int .i64 (-1), .int .i64 0, .int .i64 0, .string ByteArray.empty]) := ⟨_, rfl⟩
 have st5 : St S5 := by rw [hSd]; infer_instance
 have D5 : Hid (∀ W, S5 W → S4 W) := by show ∀ W, _; rw [hSd]; exact fun W h => h.1
 have F_M : Hid (∀ W, S5 W → Row W G_10 47 #[.slice (some ⟨G_8, 0, none⟩) 1 1, .int .i64 5, .int .i64 0, .int .i64 0, .int .i64 (-1), .int .i64 0, .int .i64 0, .string ByteArray.empty]) := by show ∀ W, _; rw [hSd]; exact fun W h => h.2
 have HS5 : Hid (S5 w_12) := by show S5 w_12; rw [hSd]; exact ⟨hprev, rH⟩
 clear hSd
 clear hprev HS4 hG rG bG rH oH bH
 go_wp2_with (first | (refine wpList_load_row rfl 25 _ rfl G_5 rfl 25 #[.int .i64 1, .slice (some ⟨G_1, 0, none⟩) 1 1, .slice (some ⟨G_3, 0, none⟩) 3 3] (0, 0) _ (F_P.out _ (D4.out _ (D5.out _ HS5.out))) Tryz.underlying25 rfl (by kernel_rfl) ?_) | (refine at_slice _ _ _ rfl ?_))
 refine Stop.to ?_
 refine wpList_slice_gen rfl 22 1 _ rfl 3 (ints [1]).toArray (bs_run Tryz.underlying22 info_iE (by decide) (by decide) (by kernel_rfl)) ?_
 intro G_13 w_14 hG rG bG
 have hprev := st5.go HS5.out (bG.mono hG)
 obtain ⟨S6, hSd⟩ : ∃ S : World → Prop, S = (fun W => S5 W ∧ Row W G_13 3 (ints [1]).toArray) := ⟨_, rfl⟩
 have st6 : St S6 := by rw [hSd]; infer_instance
 have D6 : Hid (∀ W, S6 W → S5 W) := by show ∀ W, _; rw [hSd]; exact fun W h => h.1
 have F_t1 : Hid (∀ W, S6 W → Row W G_13 3 (ints [1]).toArray) := by show ∀ W, _; rw [hSd]; exact fun W h => h.2
 have HS6 : Hid (S6 w_14) := by show S6 w_14; rw [hSd]; exact ⟨hprev, rG⟩
 clear hSd
 clear hprev HS5 hG rG bG
 go_wp2_with (refine at_slice _ _ _ rfl ?_)
 refine Stop.to ?_
 refine wpList_slice_gen rfl 26 1 _ rfl 22 (tstC [tvE G_13]).toArray (bs_run Tryz.underlying26 info_tE (by decide) (by decide) (by kernel_rfl)) ?_
 intro G_15 w_16 hG rG bG
 have hprev := st6.go HS6.out (bG.mono hG)
 obtain ⟨S7, hSd⟩ : ∃ S : World → Prop, S = (fun W => S6 W ∧ Row W G_15 22 (tstC [tvE G_13]).toArray) := ⟨_, rfl⟩
 have st7 : St S7 := by rw [hSd]; infer_instance
 have D7 : Hid (∀ W, S7 W → S6 W) := by show ∀ W, _; rw [hSd]; exact fun W h => h.1
 have F_T1 : Hid (∀ W, S7 W → Row W G_15 22 (tstC [tvE G_13]).toArray) := by show ∀ W, _; rw [hSd]; exact fun W h => h.2
 have HS7 : Hid (S7 w_16) := by show S7 w_16; rw [hSd]; exact ⟨hprev, rG⟩
 clear hSd
 clear hprev HS6 hG rG bG
 go_wp2_with (first | (refine wpList_load_row rfl 47 _ rfl G_10 rfl 47 #[.slice (some ⟨G_8, 0, none⟩) 1 1, .int .i64 5, .int .i64 0, .int .i64 0, .int .i64 (-1), .int .i64 0, .int .i64 0, .string ByteArray.empty] (0, 0) _ (F_M.out _ (D6.out _ (D7.out _ HS7.out))) Tryz.underlying47 rfl (by kernel_rfl) ?_) | (refine at_slice _ _ _ rfl ?_))
 refine Stop.to ?_
 refine wpList_slice_gen rfl 27 1 _ rfl 47 (mtsC [mvE G_8]).toArray (bs_run Tryz.underlying27 info_mtz (by decide) (by decide) (by kernel_rfl)) ?_
 intro G_17 w_18 hG rG bG
 have hprev := st7.go HS7.out (bG.mono hG)
 obtain ⟨S8, hSd⟩ : ∃ S : World → Prop, S = (fun W => S7 W ∧ Row W G_17 47 (mtsC [mvE G_8]).toArray) := ⟨_, rfl⟩
 have st8 : St S8 := by rw [hSd]; infer_instance
 have D8 : Hid (∀ W, S8 W → S7 W) := by show ∀ W, _; rw [hSd]; exact fun W h => h.1
 have F_M1 : Hid (∀ W, S8 W → Row W G_17 47 (mtsC [mvE G_8]).toArray) := by show ∀ W, _; rw [hSd]; exact fun W h => h.2
 have HS8 : Hid (S8 w_18) := by show S8 w_18; rw [hSd]; exact ⟨hprev, rG⟩
 clear hSd
 clear hprev HS7 hG rG bG
 go_wp2_with (refine at_alloc _ rfl ?_)
 refine Stop.to ?_
 refine wpList_alloc_gen rfl 31 rfl _ _ (zero_cp _) rfl ?_
 intro G_19 w_20 hG rG bG
 go_wp2_with (refine at_store _ _ _ rfl ?_)
 refine Stop.to ?_
 refine wpList_store_gen rfl 31 _ _ rfl G_19 #[.int .i64 1, .slice (some ⟨G_1, 0, none⟩) 1 1, .slice (some ⟨G_3, 0, none⟩) 3 3, .slice (some ⟨G_15, 0, none⟩) 1 1, .int .i64 9, .slice (some ⟨G_17, 0, none⟩) 1 1, .int .i64 1, .int .i64 0, .int .i64 0] rfl rfl 31 _ rG (by kernel_rfl) rfl (by simp [Value.oneCell']) ?_
 intro w_21 rH oH
 have bH : Below (w_18).heap.size w_18 w_21 := (bG.mono hG).trans (oH.below hG)
 have hprev := st8.go HS8.out (bH)
 obtain ⟨S9, hSd⟩ : ∃ S : World → Prop, S = (fun W => S8 W ∧ Row W G_19 31 #[.int .i64 1, .slice (some ⟨G_1, 0, none⟩) 1 1, .slice (some ⟨G_3, 0, none⟩) 3 3, .slice (some ⟨G_15, 0, none⟩) 1 1, .int .i64 9, .slice (some ⟨G_17, 0, none⟩) 1 1, .int .i64 1, .int .i64 0, .int .i64 0]) := ⟨_, rfl⟩
 have st9 : St S9 := by rw [hSd]; infer_instance
 have D9 : Hid (∀ W, S9 W → S8 W) := by show ∀ W, _; rw [hSd]; exact fun W h => h.1
 have F_C : Hid (∀ W, S9 W → Row W G_19 31 #[.int .i64 1, .slice (some ⟨G_1, 0, none⟩) 1 1, .slice (some ⟨G_3, 0, none⟩) 3 3, .slice (some ⟨G_15, 0, none⟩) 1 1, .int .i64 9, .slice (some ⟨G_17, 0, none⟩) 1 1, .int .i64 1, .int .i64 0, .int .i64 0]) := by show ∀ W, _; rw [hSd]; exact fun W h => h.2
 have HS9 : Hid (S9 w_21) := by show S9 w_21; rw [hSd]; exact ⟨hprev, rH⟩
 clear hSd
 clear hprev HS8 hG rG bG rH oH bH
 have F_okc : Hid (∀ W, S9 W → CpOk W (cE G_1 G_3 G_8 G_13 G_15 G_17)) := by show ∀ W, _; exact fun W hW => cE_ok (F_v1.out _ (D2.out _ (D3.out _ (D4.out _ (D5.out _ (D6.out _ (D7.out _ (D8.out _ (D9.out _ hW))))))))) (F_n1.out _ (D3.out _ (D4.out _ (D5.out _ (D6.out _ (D7.out _ (D8.out _ (D9.out _ hW)))))))) (F_d1.out _ (D5.out _ (D6.out _ (D7.out _ (D8.out _ (D9.out _ hW)))))) (F_t1.out _ (D7.out _ (D8.out _ (D9.out _ hW)))) (F_T1.out _ (D8.out _ (D9.out _ hW))) (F_M1.out _ (D9.out _ hW))
 have F_okz : Hid (∀ W, S9 W → CpOk W (zE G_1 G_3 G_8 G_13 G_15 G_17)) := by show ∀ W, _; exact fun W hW => zE_ok (F_v1.out _ (D2.out _ (D3.out _ (D4.out _ (D5.out _ (D6.out _ (D7.out _ (D8.out _ (D9.out _ hW))))))))) (F_n1.out _ (D3.out _ (D4.out _ (D5.out _ (D6.out _ (D7.out _ (D8.out _ (D9.out _ hW)))))))) (F_d1.out _ (D5.out _ (D6.out _ (D7.out _ (D8.out _ (D9.out _ hW)))))) (F_t1.out _ (D7.out _ (D8.out _ (D9.out _ hW)))) (F_T1.out _ (D8.out _ (D9.out _ hW))) (F_M1.out _ (D9.out _ hW))
 go_wp2_with (first | (refine wpList_load_row rfl 31 _ rfl G_19 rfl 31 #[.int .i64 1, .slice (some ⟨G_1, 0, none⟩) 1 1, .slice (some ⟨G_3, 0, none⟩) 3 3, .slice (some ⟨G_15, 0, none⟩) 1 1, .int .i64 9, .slice (some ⟨G_17, 0, none⟩) 1 1, .int .i64 1, .int .i64 0, .int .i64 0] (0, 0) _ (F_C.out _ HS9.out) Tryz.underlying31 rfl (by kernel_rfl) ?_) | (refine at_alloc _ rfl ?_))
 refine Stop.to ?_
 refine wpList_alloc_gen rfl 31 rfl _ _ (zero_cp _) rfl ?_
 intro G_22 w_23 hG rG bG
 go_wp2_with (refine at_store _ _ _ rfl ?_)
 refine Stop.to ?_
 refine wpList_store_gen rfl 31 _ _ rfl G_22 #[.int .i64 1, .slice (some ⟨G_1, 0, none⟩) 1 1, .slice (some ⟨G_3, 0, none⟩) 3 3, .slice (some ⟨G_15, 0, none⟩) 1 1, .int .i64 9, .slice (some ⟨G_17, 0, none⟩) 1 1, .int .i64 1, .int .i64 0, .int .i64 0] rfl rfl 31 _ rG (by kernel_rfl) rfl (by simp [Value.oneCell']) ?_
 intro w_24 rH oH
 go_wp2_with (refine at_store _ _ _ rfl ?_)
 refine Stop.to ?_
 refine wpList_store_part rfl 29 _ _ rfl G_22 6 rfl (.agg #[.int .i64 0, .int .i64 0, .int .i64 0]) rfl [.int .i64 0, .int .i64 0, .int .i64 0] rfl 31 _ #[.int .i64 1, .slice (some ⟨G_1, 0, none⟩) 1 1, .slice (some ⟨G_3, 0, none⟩) 3 3, .slice (some ⟨G_15, 0, none⟩) 1 1, .int .i64 9, .slice (some ⟨G_17, 0, none⟩) 1 1, .int .i64 0, .int .i64 0, .int .i64 0] rH (by kernel_rfl) (by show 6 + 3 ≤ 9; omega) (by simp [Value.oneCell']) rfl ?_
 intro w_25 rI oI
 have bH : Below (w_21).heap.size w_21 w_25 := ((bG.mono hG).trans (oH.below hG)).trans (oI.below hG)
 have hprev := st9.go HS9.out (bH)
 obtain ⟨S10, hSd⟩ : ∃ S : World → Prop, S = (fun W => S9 W ∧ Row W G_22 31 #[.int .i64 1, .slice (some ⟨G_1, 0, none⟩) 1 1, .slice (some ⟨G_3, 0, none⟩) 3 3, .slice (some ⟨G_15, 0, none⟩) 1 1, .int .i64 9, .slice (some ⟨G_17, 0, none⟩) 1 1, .int .i64 0, .int .i64 0, .int .i64 0]) := ⟨_, rfl⟩
 have st10 : St S10 := by rw [hSd]; infer_instance
 have D10 : Hid (∀ W, S10 W → S9 W) := by show ∀ W, _; rw [hSd]; exact fun W h => h.1
 have F_D : Hid (∀ W, S10 W → Row W G_22 31 #[.int .i64 1, .slice (some ⟨G_1, 0, none⟩) 1 1, .slice (some ⟨G_3, 0, none⟩) 3 3, .slice (some ⟨G_15, 0, none⟩) 1 1, .int .i64 9, .slice (some ⟨G_17, 0, none⟩) 1 1, .int .i64 0, .int .i64 0, .int .i64 0]) := by show ∀ W, _; rw [hSd]; exact fun W h => h.2
 have HS10 : Hid (S10 w_25) := by show S10 w_25; rw [hSd]; exact ⟨hprev, rI⟩
 clear hSd
 clear hprev HS9 hG rG bG rH oH rI oI bH
 go_wp2_with fail
 refine (putScore_any ⟨1, 2, 3⟩ w_25).mono ?_
 rintro e w_26 ⟨rfl, bb⟩
 rw [putSc_E]
 dsimp only
 have hprev := st10.go HS10.out (bb)
 replace HS10 := Lib.hid hprev
 clear hprev bb
 go_wp2_with fail
 refine (getScore_any [1, 2, 3] w_26 (by decide)).mono ?_
 rintro e w_27 ⟨rfl, bb⟩
 rw [getSc_E]
 dsimp only
 have hprev := st10.go HS10.out (bb)
 replace HS10 := Lib.hid hprev
 clear hprev bb
 go_wp2_with (refine at_alloc _ rfl ?_)
 refine Stop.to ?_
 refine wpList_alloc_gen rfl 29 rfl _ _ (zero_score _) rfl ?_
 intro G_28 w_29 hG rG bG
 go_wp2_with (refine at_store _ _ _ rfl ?_)
 refine Stop.to ?_
 refine wpList_store_gen rfl 29 _ _ rfl G_28 #[.int .i64 1, .int .i64 2, .int .i64 3] rfl rfl 29 _ rG (by kernel_rfl) rfl (by simp [Value.oneCell']) ?_
 intro w_30 rH oH
 have bH : Below (w_27).heap.size w_27 w_30 := (bG.mono hG).trans (oH.below hG)
 have hprev := st10.go HS10.out (bH)
 obtain ⟨S11, hSd⟩ : ∃ S : World → Prop, S = (fun W => S10 W ∧ Row W G_28 29 #[.int .i64 1, .int .i64 2, .int .i64 3]) := ⟨_, rfl⟩
 have st11 : St S11 := by rw [hSd]; infer_instance
 have D11 : Hid (∀ W, S11 W → S10 W) := by show ∀ W, _; rw [hSd]; exact fun W h => h.1
 have F_X : Hid (∀ W, S11 W → Row W G_28 29 #[.int .i64 1, .int .i64 2, .int .i64 3]) := by show ∀ W, _; rw [hSd]; exact fun W h => h.2
 have HS11 : Hid (S11 w_30) := by show S11 w_30; rw [hSd]; exact ⟨hprev, rH⟩
 clear hSd
 clear hprev HS10 hG rG bG rH oH bH
 have c5 := (F_C.out _ (D10.out _ (D11.out _ HS11.out))).cellv (i := 5) (v := .slice (some ⟨G_17, 0, none⟩) 1 1) rfl
 go_wp2_with fail
 refine (putMuts_any (some ⟨G_17, 0, none⟩) 1 1 [mvE G_8] w_30 rfl (rd_row0 (F_M1.out _ (D9.out _ (D10.out _ (D11.out _ HS11.out))))) (fun x hx => by rw [List.mem_singleton.1 hx]; exact mvE_ok (F_d1.out _ (D5.out _ (D6.out _ (D7.out _ (D8.out _ (D9.out _ (D10.out _ (D11.out _ HS11.out))))))))) (fun x hx => by rw [List.mem_singleton.1 hx]; exact ⟨inI0, inI0⟩) (by omega)).mono ?_
 rintro e w_31 ⟨rfl, bb⟩
 rw [show [mvE G_8].map MtV.m = [mE] from rfl, putMts_E]
 dsimp only
 have hprev := st11.go HS11.out (bb)
 replace HS11 := Lib.hid hprev
 clear hprev bb
 clear c5
 go_wp2_with fail
 refine (getMuts_any uE w_31 uE_len).mono ?_
 rintro e w_32 ⟨A, n, cap, l, hg⟩
 have he := hg.ee
 have Hm : Hid (l.map MtV.m = [mE]) := by show _ = _; rw [hg.mm, getMts_E]
 have Hnl : Hid (n = l.length) := hg.nn
 rw [getMts_E] at he
 subst he
 have hprev := st11.go HS11.out (hg.b)
 obtain ⟨S12, hSd⟩ : ∃ S : World → Prop, S = (fun W => S11 W ∧ Rd W A (mtsC l) ∧ ∀ x ∈ l, MtT W x) := ⟨_, rfl⟩
 have st12 : St S12 := by rw [hSd]; infer_instance
 have D12 : Hid (∀ W, S12 W → S11 W) := by show ∀ W, _; rw [hSd]; exact fun W h => h.1
 have F_rl : Hid (∀ W, S12 W → Rd W A (mtsC l)) := by show ∀ W, _; rw [hSd]; exact fun W h => h.2.1
 have F_tl : Hid (∀ W, S12 W → ∀ x ∈ l, MtT W x) := by show ∀ W, _; rw [hSd]; exact fun W h => h.2.2
 have HS12 : Hid (S12 w_32) := by show S12 w_32; rw [hSd]; exact ⟨hprev, hg.rd, hg.t⟩
 clear hSd
 clear hprev HS11 hg
 go_wp2_with fail
 refine (putMuts_any none 0 0 [] w_32 rfl (Rd.nil _ _) (fun x hx => by cases hx) (fun x hx => by cases hx) (by omega)).mono ?_
 rintro e w_33 ⟨rfl, bb⟩
 rw [show ([] : List MtV).map MtV.m = [] from rfl, putMts_0]
 dsimp only
 have hprev := st12.go HS12.out (bb)
 replace HS12 := Lib.hid hprev
 clear hprev bb
 have c5 := (F_C.out _ (D10.out _ (D11.out _ (D12.out _ HS12.out)))).cellv (i := 5) (v := .slice (some ⟨G_17, 0, none⟩) 1 1) rfl
 go_wp2_with fail
 refine (refAllMuts_any A (some ⟨G_17, 0, none⟩) cap 1 n 1 l [mvE G_8] w_33 Hnl.out rfl (F_rl.out _ HS12.out) (rd_row0 (F_M1.out _ (D9.out _ (D10.out _ (D11.out _ (D12.out _ HS12.out)))))) (fun x hx => ((F_tl.out _ HS12.out) x hx).1) (fun x hx => by rw [List.mem_singleton.1 hx]; exact mvE_ok (F_d1.out _ (D5.out _ (D6.out _ (D7.out _ (D8.out _ (D9.out _ (D10.out _ (D11.out _ (D12.out _ HS12.out)))))))))) (by have h9 := congrArg List.length Hm.out; simp at h9; omega)).mono ?_
 rintro e w_34 ⟨rfl, bb⟩
 rw [show decide (l.map MtV.m = [mvE G_8].map MtV.m) = true from decide_eq_true Hm.out]
 have hprev := st12.go HS12.out (bb)
 replace HS12 := Lib.hid hprev
 clear hprev bb
 clear c5
 go_wp2_with (refine wpList_load_row rfl 31 _ rfl G_19 rfl 31 #[.int .i64 1, .slice (some ⟨G_1, 0, none⟩) 1 1, .slice (some ⟨G_3, 0, none⟩) 3 3, .slice (some ⟨G_15, 0, none⟩) 1 1, .int .i64 9, .slice (some ⟨G_17, 0, none⟩) 1 1, .int .i64 1, .int .i64 0, .int .i64 0] (0, 0) _ (F_C.out _ (D10.out _ (D11.out _ (D12.out _ HS12.out)))) Tryz.underlying31 rfl (by kernel_rfl) ?_)
 refine (cpCheck_any (cE G_1 G_3 G_8 G_13 G_15 G_17) w_34 (F_okc.out _ (D10.out _ (D11.out _ (D12.out _ HS12.out))))).mono ?_
 rintro e w_35 ⟨rfl, bb⟩
 rw [okC.2 (okE G_1 G_3 G_8 G_13 G_15 G_17)]
 have hprev := st12.go HS12.out (bb)
 replace HS12 := Lib.hid hprev
 clear hprev bb
 go_wp2_with (refine wpList_load_rowG rfl 31 _ rfl G_22 rfl 31 #[.int .i64 1, .slice (some ⟨G_1, 0, none⟩) 1 1, .slice (some ⟨G_3, 0, none⟩) 3 3, .slice (some ⟨G_15, 0, none⟩) 1 1, .int .i64 9, .slice (some ⟨G_17, 0, none⟩) 1 1, .int .i64 0, .int .i64 0, .int .i64 0] (0, 0) _ (F_D.out _ (D11.out _ (D12.out _ HS12.out))) Tryz.underlying31 rfl (by kernel_rfl) ?_)
 refine (cpCheck_any (zE G_1 G_3 G_8 G_13 G_15 G_17) w_35 (F_okz.out _ (D10.out _ (D11.out _ (D12.out _ HS12.out))))).mono ?_
 rintro e w_36 ⟨rfl, bb⟩
 rw [zE_chk]
 have hprev := st12.go HS12.out (bb)
 replace HS12 := Lib.hid hprev
 clear hprev bb
 go_wp2_with fail
 refine (cpCheck_any cp0 w_36 (cp0_ok _)).mono ?_
 rintro e w_37 ⟨rfl, bb⟩
 rw [cp0_chk]
 have hprev := st12.go HS12.out (bb)
 replace HS12 := Lib.hid hprev
 clear hprev bb
 go_wp2_with (first | (refine wpList_load_rowG rfl 29 _ rfl G_28 rfl 29 #[.int .i64 1, .int .i64 2, .int .i64 3] (0, 0) _ (F_X.out _ (D12.out _ HS12.out)) Tryz.underlying29 rfl (by kernel_rfl) ?_) | (refine wpList_load_rowG rfl 31 _ rfl G_19 rfl 31 #[.int .i64 1, .slice (some ⟨G_1, 0, none⟩) 1 1, .slice (some ⟨G_3, 0, none⟩) 3 3, .slice (some ⟨G_15, 0, none⟩) 1 1, .int .i64 9, .slice (some ⟨G_17, 0, none⟩) 1 1, .int .i64 1, .int .i64 0, .int .i64 0] (0, 0) _ (F_C.out _ (D10.out _ (D11.out _ (D12.out _ HS12.out)))) Tryz.underlying31 rfl (by kernel_rfl) ?_))
 refine (cpSame_any (cE G_1 G_3 G_8 G_13 G_15 G_17) (cE G_1 G_3 G_8 G_13 G_15 G_17) w_37 (F_okc.out _ (D10.out _ (D11.out _ (D12.out _ HS12.out)))) (F_okc.out _ (D10.out _ (D11.out _ (D12.out _ HS12.out))))).mono ?_
 rintro e w_38 ⟨rfl, bb⟩
 rw [show sameC (cE G_1 G_3 G_8 G_13 G_15 G_17) (cE G_1 G_3 G_8 G_13 G_15 G_17) = true from sameC_iff.2 rfl]
 have hprev := st12.go HS12.out (bb)
 replace HS12 := Lib.hid hprev
 clear hprev bb
 go_wp2_with (first | (refine wpList_load_rowG rfl 31 _ rfl G_19 rfl 31 #[.int .i64 1, .slice (some ⟨G_1, 0, none⟩) 1 1, .slice (some ⟨G_3, 0, none⟩) 3 3, .slice (some ⟨G_15, 0, none⟩) 1 1, .int .i64 9, .slice (some ⟨G_17, 0, none⟩) 1 1, .int .i64 1, .int .i64 0, .int .i64 0] (0, 0) _ (F_C.out _ (D10.out _ (D11.out _ (D12.out _ HS12.out)))) Tryz.underlying31 rfl (by kernel_rfl) ?_) | (refine wpList_load_rowG rfl 31 _ rfl G_22 rfl 31 #[.int .i64 1, .slice (some ⟨G_1, 0, none⟩) 1 1, .slice (some ⟨G_3, 0, none⟩) 3 3, .slice (some ⟨G_15, 0, none⟩) 1 1, .int .i64 9, .slice (some ⟨G_17, 0, none⟩) 1 1, .int .i64 0, .int .i64 0, .int .i64 0] (0, 0) _ (F_D.out _ (D11.out _ (D12.out _ HS12.out))) Tryz.underlying31 rfl (by kernel_rfl) ?_))
 refine (cpSame_any (cE G_1 G_3 G_8 G_13 G_15 G_17) (zE G_1 G_3 G_8 G_13 G_15 G_17) w_38 (F_okc.out _ (D10.out _ (D11.out _ (D12.out _ HS12.out)))) (F_okz.out _ (D10.out _ (D11.out _ (D12.out _ HS12.out))))).mono ?_
 rintro e w_39 ⟨rfl, bb⟩
 rw [zE_same]
 have hprev := st12.go HS12.out (bb)
 replace HS12 := Lib.hid hprev
 clear hprev bb
 go_wp2_with fail
 go_ret
 exact ⟨rfl, (F_low.out _ (D1.out _ (D2.out _ (D3.out _ (D4.out _ (D5.out _ (D6.out _ (D7.out _ (D8.out _ (D9.out _ (D10.out _ (D11.out _ (D12.out _ HS12.out)))))))))))))⟩
end Go.Proofs.YtcgglolckkeeiaaGreat
namespace Go.Proofs.YtcgglolckkeeiaaGreat
set_option linter.unusedVariables false
set_option linter.unusedSimpArgs false
open Go.ChangeShapes Go.WideShapes Go.RowKit Go.Deep
theorem eql_scE (x : Sc) (W : World) : (binOp .eql 29 (.agg #[.int .i64 x.alive, .int .i64 x.killed, .int .i64 x.timeout]) (.agg #[.int .i64 x.alive, .int .i64 x.killed, .int .i64 x.timeout])).run Tryz.prog W = .ok (.bool true) W := by
 simp [go_sem]
end Go.Proofs.YtcgglolckkeeiaaGreat
namespace Go.Proofs.YtcgglolckkeeiaaGreat
set_option linter.unusedVariables false
set_option linter.unusedSimpArgs false
open Go.RowKit Go.Deep
def cpM (c : CpV) (v : Value) (s : Sc) : Array Value := #[.int .i64 c.p.params, .slice c.p.va c.p.V.length c.p.vcap, .slice c.p.ba c.p.body.length c.p.bcap, .slice c.tA c.tests.length c.tcap, .int .i64 c.fuel, v, .int .i64 s.alive, .int .i64 s.killed, .int .i64 s.timeout]
theorem cpM_cell {W : World} {D : Nat} {t : TypeId} {c : CpV} {v : Value} {s : Sc} (h : Row W D t (cpM c v s)) : W.cell? ⟨D, 5, none⟩ = some v := h.cellv (i := 5) rfl
def partC (c : CpV) (A : Option Addr) (cap : Nat) (ds : List MtV) : CpV := ⟨c.p, c.tA, c.tcap, c.tests, c.fuel, A, cap, ds, scoreZ (ds.map MtV.m)⟩
theorem partC_part (c : CpV) (A : Option Addr) (cap : Nat) (p : Nat → Bool) (b : Bool) : PartC c (partC c A cap (partL p b 0 c.mts)) p b :=
 ⟨sameS_iff.2 ⟨⟨rfl, rfl, rfl⟩, rfl, rfl⟩, by show (partL p b 0 c.mts).map MtV.m = _; rw [partL_map]; rfl, rfl⟩
theorem partC_ok {c : CpV} {W : World} {A : Option Addr} {cap : Nat} {ds : List MtV} (h : CpOk W c) (hs : ∀ x ∈ ds, x ∈ c.mts) (hl : ds.length ≤ c.mts.length) (hr : Rd W A (mtsC ds)) (hn : A = none → ds = []) : CpOk W (partC c A cap ds) :=
 ⟨h.pok, h.bl, h.vl, h.trd, h.tok, h.tlen, h.tl, h.tnil, hr, fun x hx => h.mok x (hs x hx), Nat.le_trans hl h.mlen, hn⟩
theorem countV_bound (l : List Mt) (v : Int) : 0 ≤ countV l v ∧ countV l v ≤ l.length := by
 unfold countV
 have := List.length_filter_le (fun m : Mt => m.verdict == v) l
 omega
theorem score_small (l : List Mt) (h : l.length ≤ 100000) : (scoreZ l).small := by
 have h0 := countV_bound l 0
 have h1 := countV_bound l 1
 have h2 := countV_bound l 2
 unfold Sc.small scoreZ
 exact ⟨⟨h0.1, by show countV l 0 ≤ _; omega⟩, ⟨h1.1, by show countV l 1 ≤ _; omega⟩, h2.1, by show countV l 2 ≤ _; omega⟩
end Go.Proofs.YtcgglolckkeeiaaGreat
namespace Go.Proofs.YtcgglolckkeeiaaGreat
set_option linter.unusedVariables false
set_option linter.unusedSimpArgs false
open Go.RowKit Go.Deep
def Sc.tot (s : Sc) : Int := s.alive + s.killed + s.timeout
set_option maxRecDepth 100000 in
set_option maxHeartbeats 4000000 in
theorem scTotal_any (s : Sc) (w : World) (hs : s.small) :
 Calls Tryz.prog 42 #[.agg s.cells] w fun e w' => e = .returned (.int .i64 s.tot) ∧ Below w.heap.size w w' := by
 obtain ⟨s0, s1, s2⟩ := s
 obtain ⟨⟨a0, a1⟩, ⟨b0, b1⟩, c0, c1⟩ := hs
 simp only at a0 a1 b0 b1 c0 c1
 unfold Sc.tot Sc.cells
 dsimp only
 have HO := Lib.hid (fun W => scOf_any ⟨s0, s1, s2⟩ W)
 unfold Sc.cells at HO
 dsimp only at HO
 go_enter Tryz.func42, Tryz.ntmps42
 go_wp2_with (refine at_box _ _ rfl ?_)
 refine Stop.to ?_
 refine wpList_box_gen rfl 29 _ rfl #[.int .i64 s0, .int .i64 s1, .int .i64 s2] rfl ?_
 intro G Gw Gh Gr Gb
 have bb := (Below.refl w.heap.size w).trans (Gb.mono Gh)
 go_wp2_with (refine wpList_load_row rfl 29 _ rfl G rfl 29 #[.int .i64 s0, .int .i64 s1, .int .i64 s2] (0, 0) _ Gr Tryz.underlying29 rfl (by kernel_rfl) ?_)
 refine (HO.out Gw).mono ?_
 rintro e w1 ⟨rfl, b2⟩
 have b3 := bb.trans (b2.mono bb.size)
 clear Gr Gb Gh b2 bb HO
 go_wp2_with fail
 go_loopw [3, 8] (fun c i wr => ((i = .int .i64 0 ∧ c = .int .i64 0) ∨ (i = .int .i64 1 ∧ c = .int .i64 s0) ∨ (i = .int .i64 2 ∧ c = .int .i64 (s0 + s1)) ∨ (i = .int .i64 3 ∧ c = .int .i64 (s0 + s1 + s2))) ∧ Below w.heap.size w wr) (fun _ i _ => 3 - (intOf i).toNat)
 case atStart => exact ⟨.inl ⟨rfl, rfl⟩, b3⟩
 case round =>
  clear b3
  obtain ⟨hr, hb⟩ := hrel
  have ix0 : ∀ w, (Instr.index 89 (.agg #[.int .i64 s0, .int .i64 s1, .int .i64 s2]) (.int .i64 0)).run Tryz.prog w = .ok (.int .i64 s0) w := fun _ => by kernel_rfl
  have ix1 : ∀ w, (Instr.index 89 (.agg #[.int .i64 s0, .int .i64 s1, .int .i64 s2]) (.int .i64 1)).run Tryz.prog w = .ok (.int .i64 s1) w := fun _ => by kernel_rfl
  have ix2 : ∀ w, (Instr.index 89 (.agg #[.int .i64 s0, .int .i64 s1, .int .i64 s2]) (.int .i64 2)).run Tryz.prog w = .ok (.int .i64 s2) w := fun _ => by kernel_rfl
  rcases hr with ⟨rfl, rfl⟩ | ⟨rfl, rfl⟩ | ⟨rfl, rfl⟩ | ⟨rfl, rfl⟩
  · go_wp2_with fail
    go_roundw
    case rel => exact ⟨.inr (.inl ⟨rfl, by first | rfl | simp⟩), hb⟩
    case measure => simp [intOf]
  · go_wp2_with fail
    go_roundw
    case rel => exact ⟨.inr (.inr (.inl ⟨rfl, by first | rfl | simp⟩)), hb⟩
    case measure => simp [intOf]
  · go_wp2_with fail
    go_roundw
    case rel => exact ⟨.inr (.inr (.inr ⟨rfl, by first | rfl | simp⟩)), hb⟩
    case measure => simp [intOf]
  · clear ix0 ix1 ix2
    go_wp2_with fail
    go_ret
    exact ⟨rfl, hb⟩
theorem countV_cons (m : Mt) (l : List Mt) (v : Int) : countV (m :: l) v = (if m.verdict = v then 1 else 0) + countV l v := by
 unfold countV
 rw [List.filter_cons]
 by_cases h : m.verdict = v <;> simp [h]; omega
theorem scoreZ_tot {l : List Mt} (h : ∀ m ∈ l, rightZ m = true) : (scoreZ l).tot = l.length := by
 induction l with
 | nil => rfl
 | cons m l ih =>
  have h1 := ih (fun x hx => h x (List.mem_cons_of_mem _ hx))
  have h2 := h m (List.mem_cons_self)
  unfold Sc.tot scoreZ at h1 ⊢
  dsimp only at h1 ⊢
  rw [countV_cons, countV_cons, countV_cons, List.length_cons]
  have hv : m.verdict = 0 ∨ m.verdict = 1 ∨ m.verdict = 2 := by
   unfold rightZ at h2
   by_cases h0 : m.verdict = 0
   · exact .inl h0
   · by_cases h3 : m.verdict = 1
     · exact .inr (.inl h3)
     · by_cases h4 : m.verdict = 2
       · exact .inr (.inr h4)
       · rw [if_neg h0, if_neg h3, if_neg h4] at h2; cases h2
  rcases hv with e | e | e <;> rw [e] <;> simp <;> omega
def butP (at_ : Nat) : Nat → Bool := fun k => decide (k ≠ at_)
theorem partL_but (at_ : Nat) {α : Type} : ∀ (l : List α) (i : Nat), i ≤ at_ → partL (butP at_) true i l = l.take (at_ - i) ++ l.drop (at_ - i + 1) ∧ partL (butP at_) false i l = (l.drop (at_ - i)).take 1
 | [], i, _ => by simp [partL]
 | x :: l, i, hi => by
  by_cases h : i = at_
  · subst h
    have h2 : ∀ (l : List α) (j : Nat), i < j → partL (butP i) true j l = l ∧ partL (butP i) false j l = [] := by
     intro l
     induction l with
     | nil => intro j _; simp [partL]
     | cons y l ih =>
      intro j hj
      have h3 := ih (j + 1) (by omega)
      have h4 : butP i j = true := by simp [butP]; omega
      simp [partL, h4, h3.1, h3.2]
    have h3 := h2 l (i + 1) (by omega)
    have h4 : butP i i = false := by simp [butP]
    simp [partL, h4, h3.1, h3.2]
  · have h3 := partL_but at_ l (i + 1) (by omega)
    have h4 : butP at_ i = true := by simp [butP, h]
    obtain ⟨k, hk⟩ : ∃ k, at_ - i = k + 1 := ⟨at_ - i - 1, by omega⟩
    have hk2 : at_ - (i + 1) = k := by omega
    rw [hk2] at h3
    rw [hk]
    simp [partL, h4, h3.1, h3.2]
end Go.Proofs.YtcgglolckkeeiaaGreat
namespace Go.Proofs.YtcgglolckkeeiaaGreat
set_option linter.unusedVariables false
set_option linter.unusedSimpArgs false
open Go.RowKit Go.Deep
theorem run_exec_slb {P : Program} {o : Oper} {w w1 : World} {ρ : Operand → Value} {x lo hi : Operand} {t : TypeId} (ho : o.op = .slice t x (some lo) (some hi) none) {v : Value} (hv : (Instr.sliceAt t (ρ x) (some (ρ lo)) (some (ρ hi)) none).run P w = .ok v w1) : (execOp ρ o).run P w = .ok (.value v) w1 := by
 simp only [execOp, ho, Option.map_some, Option.map_none, Sem.run_bind, hv, Result.andThen_ok, Sem.run_pure]
theorem run_slB (W : World) (A : Option Addr) (n cap p q : Nat) (h : p ≤ q) (hq : q ≤ cap) : (Instr.sliceAt 27 (.slice A n cap) (some (.int .i64 (p : Int))) (some (.int .i64 (q : Int))) none).run Tryz.prog W = .ok (sliced A p q cap 8) W := by
 refine (run_sliceAt_slice (P := Tryz.prog) (w := W) 27 (.slice A n cap) (some (.int .i64 (p : Int))) (some (.int .i64 (q : Int))) none (by kernel_rfl)).trans ?_
 refine (run_slice_lh (P := Tryz.prog) (w := W) 27 A n cap (by kernel_rfl) .i64 .i64 (p : Int) (q : Int) (by omega) (by omega) (by omega)).trans ?_
 rw [Int.toNat_natCast, Int.toNat_natCast, show (sizeOf (Tryz.prog.elem 27)).run Tryz.prog W = .ok 8 W from by kernel_rfl]
 rfl
theorem at_slb {ops : Array Oper} {rest : List Oper} {o : Oper} {a : Act} {w : World} {Q : Exit → Act → World → Prop} (t : TypeId) (x lo hi : Operand) (_ : o.op = .slice t x (some lo) (some hi) none) (h : Stop (wpList Tryz.prog ops Q (o :: rest) a w) id) : wpList Tryz.prog ops Q (o :: rest) a w := h.out
theorem mts_one {W : World} {A : Option Addr} {l : List MtV} (h : Rd W A (mtsC l)) {k cap : Nat} {x : MtV} (hx : l[k]? = some x) (hc : k + 1 ≤ cap) (hA : A ≠ none) : ∃ X, sliced A k (k + 1) cap 8 = .slice X 1 (cap - k) ∧ Rd W X (mtsC [x]) := by
 have hk := (List.getElem?_eq_some_iff.1 hx).1
 have ht : (l.take (k + 1)).drop k = [x] := by
  rw [List.take_add_one, hx, List.drop_append_of_le_length (by rw [List.length_take]; omega), List.drop_take, Nat.sub_self, List.take_zero]
  rfl
 obtain ⟨X, h1, h2, _⟩ := mts_drop (mts_take h (k + 1)) (p := k) (n := k + 1) (cap := cap) (by rw [List.length_take]; omega) (by omega) hc (fun e => absurd e hA)
 rw [ht] at h2
 exact ⟨X, by rw [h1, Nat.add_sub_cancel_left], h2⟩
def lessC (c : CpV) (A : Option Addr) (cap : Nat) (ds : List MtV) (s : Sc) : CpV := ⟨c.p, c.tA, c.tcap, c.tests, c.fuel, A, cap, ds, s⟩
theorem lessC_ok {c : CpV} {W : World} {A : Option Addr} {cap : Nat} {ds : List MtV} {s : Sc} (h : CpOk W (partC c A cap ds)) : CpOk W (lessC c A cap ds s) := by
 obtain ⟨⟩ := h
 constructor <;> assumption
def dropK (c : CpV) (k : Nat) : List MtV := partL (butP k) true 0 c.mts
theorem dropK_is (c : CpV) (k : Nat) : dropK c k = c.mts.take k ++ c.mts.drop (k + 1) := by
 have := (partL_but k c.mts 0 (Nat.zero_le _)).1
 rwa [Nat.sub_zero] at this
theorem dropK_len {c : CpV} {k : Nat} (hk : k < c.mts.length) : (dropK c k).length = c.mts.length - 1 := by
 rw [dropK_is, List.length_append, List.length_take, List.length_drop]; omega
theorem dropK_mem {c : CpV} {k : Nat} : ∀ x ∈ dropK c k, x ∈ c.mts := fun x hx => (partL_sub (butP k) true c.mts 0).subset hx
theorem oneK_is {c : CpV} {k : Nat} {x : MtV} (hx : c.mts[k]? = some x) : partL (butP k) false 0 c.mts = [x] := by
 have := (partL_but k c.mts 0 (Nat.zero_le _)).2
 rw [Nat.sub_zero] at this
 rw [this]
 have hk := (List.getElem?_eq_some_iff.1 hx)
 rw [← List.getElem_cons_drop hk.1, hk.2]
 rfl
theorem own_less {W : World} {lim n : Nat} {v : Value} {xs : List Value} (h : W.ownsRow lim 47 8 v n xs) {l : List MtV} (hn : n = l.length) (hx : xs = mtsC l) : ∃ A cap, v = .slice A l.length cap ∧ Rd W A (mtsC l) ∧ (A = none → l = []) ∧ RowB W 47 A := by
 obtain ⟨A, cap, rfl, h1, h2, _, h3, _⟩ := own_rdN h
 subst hn hx
 exact ⟨A, cap, rfl, h1, fun e => List.eq_nil_of_length_eq_zero (by have := h3 e; omega), own_rowB h⟩
theorem odd_right {n : Nat} {m : Mt} (h : oddZ n m = false) : rightZ m = true := by
 unfold oddZ at h
 simp only [Bool.or_eq_false_iff, Bool.not_eq_false'] at h
 exact h.1
theorem OkC.tot {c : CpV} (h : OkC c) : c.sc.tot = c.mts.length := by
 rw [h.sc, scoreZ_tot (fun m hm => odd_right (h.odd m hm))]
 unfold CpV.muts
 rw [List.length_map]
theorem less_all {c : CpV} (h : OkC c) {k : Nat} {x : MtV} (hx : c.mts[k]? = some x) (A : Option Addr) (cap : Nat) :
 OkC (partC c A cap (dropK c k)) ∧ cpCheckZ (lessC c A cap (dropK c k) c.sc) = 22 ∧ (scoreZ ((dropK c k).map MtV.m)).add (scoreZ [x.m]) = c.sc ∧ sameC c (partC c A cap (dropK c k)) = false := by
 have hk := (List.getElem?_eq_some_iff.1 hx).1
 have p1 := partC_part c A cap (butP k) true
 have p2 := partC_part c none 0 (butP k) false
 have o1 : OkC (partC c A cap (dropK c k)) := p1.ok h
 have t1 := o1.tot
 have t2 := h.tot
 have hl := dropK_len hk
 have hl1 : (partC c A cap (dropK c k)).mts.length = c.mts.length - 1 := hl
 refine ⟨o1, cpCheck_22 (c := lessC c A cap (dropK c k) c.sc) o1 (fun e => ?_), ?_, ?_⟩
 · have e2 : c.sc = (partC c A cap (dropK c k)).sc := e
   rw [← e2, hl1] at t1
   omega
 · have h3 := (p1.both p2 h).2.2
   rw [oneK_is hx] at h3
   exact h3
 · rw [← Bool.not_eq_true]
   intro e
   have e2 := congrArg (fun d : Cd => d.muts.length) (sameC_iff.1 e)
   have e3 : c.muts.length = (partC c A cap (dropK c k)).muts.length := e2
   unfold CpV.muts at e3
   rw [List.length_map, List.length_map, hl1] at e3
   omega
end Go.Proofs.YtcgglolckkeeiaaGreat
