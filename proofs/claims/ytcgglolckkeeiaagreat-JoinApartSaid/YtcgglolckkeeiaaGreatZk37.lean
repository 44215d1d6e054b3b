/- Lemmas for JnBll. -/
import Derived.Test.YtcgglolckkeeiaaGreatZk30
import Derived.Test.YtcgglolckkeeiaaGreatZk31
import Derived.Test.YtcgglolckkeeiaaGreatZk33
import Derived.Test.YtcgglolckkeeiaaGreatZk35
namespace Go.Proofs.YtcgglolckkeeiaaGreat
set_option linter.unusedVariables false
open Go.RowKit Go.Deep
instance St.rowB {t : TypeId} {A : Option Addr} : St (fun W => RowB W t A) := ⟨fun h b => h.go b⟩
instance St.cpt {c : CpV} : St (fun W => CpT W c) := ⟨fun h b => ⟨h.va.go b, h.ba.go b, h.tA.go b, fun x hx => (h.ts x hx).go b, h.mA.go b, fun x hx => (h.ms x hx).go b⟩⟩
set_option maxRecDepth 100000 in
set_option maxHeartbeats 16000000 in
theorem works25_any (w : World) : Calls Tryz.prog 15 #[] w fun e w' => e = .returned (.bool true) ∧ Below w.heap.size w w' := by
 go_enter Tryz.func15, Tryz.ntmps15
 obtain ⟨S0, hSd⟩ : ∃ S : World → Prop, S = (fun W => Below w.heap.size w W) := ⟨_, rfl⟩
 have st0 : St S0 := by rw [hSd]; infer_instance
 have F_low : Hid (∀ W, S0 W → Below w.heap.size w W) := by show ∀ W, _; rw [hSd]; exact fun W h => h
 have HS0 : Hid (S0 w) := by show S0 w; rw [hSd]; exact Below.refl _ _
 clear hSd
 go_wp2_with (refine at_slice _ _ _ rfl ?_)
 refine Stop.to ?_
 refine wpList_slice_gen rfl 22 1 _ rfl 3 (ints [0]).toArray (bs_run Tryz.underlying22 info_iE (by decide) (by decide) (by kernel_rfl)) ?_
 intro G_1 w_2 hG rG bG
 have hprev := st0.go HS0.out (bG.mono hG)
 obtain ⟨S1, hSd⟩ : ∃ S : World → Prop, S = (fun W => S0 W ∧ Row W G_1 3 (ints [0]).toArray) := ⟨_, rfl⟩
 have st1 : St S1 := by rw [hSd]; infer_instance
 have D1 : Hid (∀ W, S1 W → S0 W) := by show ∀ W, _; rw [hSd]; exact fun W h => h.1
 have F_v1 : Hid (∀ W, S1 W → Row W G_1 3 (ints [0]).toArray) := by show ∀ W, _; rw [hSd]; exact fun W h => h.2
 have HS1 : Hid (S1 w_2) := by show S1 w_2; rw [hSd]; exact ⟨hprev, rG⟩
 clear hSd
 clear hprev HS0 hG rG bG
 go_wp2_with (refine at_slice _ _ _ rfl ?_)
 refine Stop.to ?_
 refine wpList_slice_gen rfl 23 3 _ rfl 74 (bodyE.flatMap Nd.cells).toArray (bs_run Tryz.underlying23 info_nE (by decide) (by decide) (by kernel_rfl)) ?_
 intro G_3 w_4 hG rG bG
 have hprev := st1.go HS1.out (bG.mono hG)
 obtain ⟨S2, hSd⟩ : ∃ S : World → Prop, S = (fun W => S1 W ∧ Row W G_3 74 (bodyE.flatMap Nd.cells).toArray) := ⟨_, rfl⟩
 have st2 : St S2 := by rw [hSd]; infer_instance
 have D2 : Hid (∀ W, S2 W → S1 W) := by show ∀ W, _; rw [hSd]; exact fun W h => h.1
 have F_n1 : Hid (∀ W, S2 W → Row W G_3 74 (bodyE.flatMap Nd.cells).toArray) := by show ∀ W, _; rw [hSd]; exact fun W h => h.2
 have HS2 : Hid (S2 w_4) := by show S2 w_4; rw [hSd]; exact ⟨hprev, rG⟩
 clear hSd
 clear hprev HS1 hG rG bG
 go_wp2_with (refine at_alloc _ rfl ?_)
 refine Stop.to ?_
 refine wpList_alloc_gen rfl 25 rfl _ _ zero_pgE rfl ?_
 intro G_5 w_6 hG rG bG
 go_wp2_with (refine at_store _ _ _ rfl ?_)
 refine Stop.to ?_
 refine wpList_store_gen rfl 25 _ _ rfl G_5 #[.int .i64 1, .slice (some ⟨G_1, 0, none⟩) 1 1, .slice (some ⟨G_3, 0, none⟩) 3 3] rfl rfl 25 _ rG (by kernel_rfl) rfl (by simp [Value.oneCell']) ?_
 intro w_7 rH oH
 have bH : Below (w_4).heap.size w_4 w_7 := (bG.mono hG).trans (oH.below hG)
 have hprev := st2.go HS2.out (bH)
 obtain ⟨S3, hSd⟩ : ∃ S : World → Prop, S = (fun W => S2 W ∧ Row W G_5 25 #[.int .i64 1, .slice (some ⟨G_1, 0, none⟩) 1 1, .slice (some ⟨G_3, 0, none⟩) 3 3]) := ⟨_, rfl⟩
 have st3 : St S3 := by rw [hSd]; infer_instance
 have D3 : Hid (∀ W, S3 W → S2 W) := by show ∀ W, _; rw [hSd]; exact fun W h => h.1
 have F_P : Hid (∀ W, S3 W → Row W G_5 25 #[.int .i64 1, .slice (some ⟨G_1, 0, none⟩) 1 1, .slice (some ⟨G_3, 0, none⟩) 3 3]) := by show ∀ W, _; rw [hSd]; exact fun W h => h.2
 have HS3 : Hid (S3 w_7) := by show S3 w_7; rw [hSd]; exact ⟨hprev, rH⟩
 clear hSd
 clear hprev HS2 hG rG bG rH oH bH
 go_wp2_with (refine at_slice _ _ _ rfl ?_)
 refine Stop.to ?_
 refine wpList_slice_gen rfl 22 1 _ rfl 3 (ints [0]).toArray (bs_run Tryz.underlying22 info_iE (by decide) (by decide) (by kernel_rfl)) ?_
 intro G_8 w_9 hG rG bG
 have hprev := st3.go HS3.out (bG.mono hG)
 obtain ⟨S4, hSd⟩ : ∃ S : World → Prop, S = (fun W => S3 W ∧ Row W G_8 3 (ints [0]).toArray) := ⟨_, rfl⟩
 have st4 : St S4 := by rw [hSd]; infer_instance
 have D4 : Hid (∀ W, S4 W → S3 W) := by show ∀ W, _; rw [hSd]; exact fun W h => h.1
 have F_d1 : Hid (∀ W, S4 W → Row W G_8 3 (ints [0]).toArray) := by show ∀ W, _; rw [hSd]; exact fun W h => h.2
 have HS4 : Hid (S4 w_9) := by show S4 w_9; rw [hSd]; exact ⟨hprev, rG⟩
 clear hSd
 clear hprev HS3 hG rG bG
 go_wp2_with (refine at_alloc _ rfl ?_)
 refine Stop.to ?_
 refine wpList_alloc_gen rfl 47 rfl _ _ (zero_mt _) rfl ?_
 intro G_10 w_11 hG rG bG
 go_wp2_with (refine at_store _ _ _ rfl ?_)
 refine Stop.to ?_
 refine wpList_store_gen rfl 47 _ _ rfl G_10 #[.slice (some ⟨G_8, 0, none⟩) 1 1, .int .i64 5, .int .i64 0, .int .i64 0, .int .i64 (-1), .int .i64 0, .int .i64 0, .string ByteArray.empty] rfl rfl 47 _ rG (by kernel_rfl) rfl (by simp [Value.oneCell']) ?_
 intro w_12 rH oH
 have bH : Below (w_9).heap.size w_9 w_12 := (bG.mono hG).trans (oH.below hG)
 have hprev := st4.go HS4.out (bH)
 obtain ⟨S5, hSd⟩ : ∃ S : World → Prop, S = (fun W => S4 W ∧ Row W G_10 47 #[.slice (some ⟨G_8, 0, none⟩) 1 1, .int .i64 5, .int .i64 0, .int .i64 0, .int .i64 (-1), .int .i64 0, .int .i64 0, .string ByteArray.empty]) := ⟨_, rfl⟩
 have st5 : St S5 := by rw [hSd]; infer_instance
 have D5 : Hid (∀ W, S5 W → S4 W) := by show ∀ W, _; rw [hSd]; exact fun W h => h.1
 have F_M : Hid (∀ W, S5 W → Row W G_10 47 #[.slice (some ⟨G_8, 0, none⟩) 1 1, .int .i64 5, .int .i64 0, .int .i64 0, .int .i64 (-1), .int .i64 0, .int .i64 0, .string ByteArray.empty]) := by show ∀ W, _; rw [hSd]; exact fun W h => h.2
 have HS5 : Hid (S5 w_12) := by show S5 w_12; rw [hSd]; exact ⟨hprev, rH⟩
 clear hSd
 clear hprev HS4 hG rG bG rH oH bH
 go_wp2_with (first | (refine wpList_load_row rfl 25 _ rfl G_5 rfl 25 #[.int .i64 1, .slice (some ⟨G_1, 0, none⟩) 1 1, .slice (some ⟨G_3, 0, none⟩) 3 3] (0, 0) _ (F_P.out _ (D4.out _ (D5.out _ HS5.out))) Tryz.underlying25 rfl (by kernel_rfl) ?_) | (refine at_slice _ _ _ rfl ?_))
 refine Stop.to ?_
 refine wpList_slice_gen rfl 22 1 _ rfl 3 (ints [1]).toArray (bs_run Tryz.underlying22 info_iE (by decide) (by decide) (by kernel_rfl)) ?_
 intro G_13 w_14 hG rG bG
 have hprev := st5.go HS5.out (bG.mono hG)
 obtain ⟨S6, hSd⟩ : ∃ S : World → Prop, S = (fun W => S5 W ∧ Row W G_13 3 (ints [1]).toArray) := ⟨_, rfl⟩
 have st6 : St S6 := by rw [hSd]; infer_instance
 have D6 : Hid (∀ W, S6 W → S5 W) := by show ∀ W, _; rw [hSd]; exact fun W h => h.1
 have F_t1 : Hid (∀ W, S6 W → Row W G_13 3 (ints [1]).toArray) := by show ∀ W, _; rw [hSd]; exact fun W h => h.2
 have HS6 : Hid (S6 w_14) := by show S6 w_14; rw [hSd]; exact ⟨hprev, rG⟩
 clear hSd
 clear hprev HS5 hG rG bG
 go_wp2_with (refine at_slice _ _ _ rfl ?_)
 refine Stop.to ?_
 refine wpList_slice_gen rfl 26 1 _ rfl 22 (tstC [tvE G_13]).toArray (bs_run Tryz.underlying26 info_tE (by decide) (by decide) (by kernel_rfl)) ?_
 intro G_15 w_16 hG rG bG
 have hprev := st6.go HS6.out (bG.mono hG)
 obtain ⟨S7, hSd⟩ : ∃ S : World → Prop, S = (fun W => S6 W ∧ Row W G_15 22 (tstC [tvE G_13]).toArray) := ⟨_, rfl⟩
 have st7 : St S7 := by rw [hSd]; infer_instance
 have D7 : Hid (∀ W, S7 W → S6 W) := by show ∀ W, _; rw [hSd]; exact fun W h => h.1
 have F_T1 : Hid (∀ W, S7 W → Row W G_15 22 (tstC [tvE G_13]).toArray) := by show ∀ W, _; rw [hSd]; exact fun W h => h.2
 have HS7 : Hid (S7 w_16) := by show S7 w_16; rw [hSd]; exact ⟨hprev, rG⟩
 clear hSd
 clear hprev HS6 hG rG bG
 go_wp2_with (first | (refine wpList_load_row rfl 47 _ rfl G_10 rfl 47 #[.slice (some ⟨G_8, 0, none⟩) 1 1, .int .i64 5, .int .i64 0, .int .i64 0, .int .i64 (-1), .int .i64 0, .int .i64 0, .string ByteArray.empty] (0, 0) _ (F_M.out _ (D6.out _ (D7.out _ HS7.out))) Tryz.underlying47 rfl (by kernel_rfl) ?_) | (refine at_slice _ _ _ rfl ?_))
 refine Stop.to ?_
 refine wpList_slice_gen rfl 27 1 _ rfl 47 (mtsC [mvE G_8]).toArray (bs_run Tryz.underlying27 info_mtz (by decide) (by decide) (by kernel_rfl)) ?_
 intro G_17 w_18 hG rG bG
 have hprev := st7.go HS7.out (bG.mono hG)
 obtain ⟨S8, hSd⟩ : ∃ S : World → Prop, S = (fun W => S7 W ∧ Row W G_17 47 (mtsC [mvE G_8]).toArray) := ⟨_, rfl⟩
 have st8 : St S8 := by rw [hSd]; infer_instance
 have D8 : Hid (∀ W, S8 W → S7 W) := by show ∀ W, _; rw [hSd]; exact fun W h => h.1
 have F_M1 : Hid (∀ W, S8 W → Row W G_17 47 (mtsC [mvE G_8]).toArray) := by show ∀ W, _; rw [hSd]; exact fun W h => h.2
 have HS8 : Hid (S8 w_18) := by show S8 w_18; rw [hSd]; exact ⟨hprev, rG⟩
 clear hSd
 clear hprev HS7 hG rG bG
 go_wp2_with (refine at_alloc _ rfl ?_)
 refine Stop.to ?_
 refine wpList_alloc_gen rfl 31 rfl _ _ (zero_cp _) rfl ?_
 intro G_19 w_20 hG rG bG
 go_wp2_with (refine at_store _ _ _ rfl ?_)
 refine Stop.to ?_
 refine wpList_store_gen rfl 31 _ _ rfl G_19 #[.int .i64 1, .slice (some ⟨G_1, 0, none⟩) 1 1, .slice (some ⟨G_3, 0, none⟩) 3 3, .slice (some ⟨G_15, 0, none⟩) 1 1, .int .i64 9, .slice (some ⟨G_17, 0, none⟩) 1 1, .int .i64 1, .int .i64 0, .int .i64 0] rfl rfl 31 _ rG (by kernel_rfl) rfl (by simp [Value.oneCell']) ?_
 intro w_21 rH oH
 have bH : Below (w_18).heap.size w_18 w_21 := (bG.mono hG).trans (oH.below hG)
 have hprev := st8.go HS8.out (bH)
 obtain ⟨S9, hSd⟩ : ∃ S : World → Prop, S = (fun W => S8 W ∧ Row W G_19 31 #[.int .i64 1, .slice (some ⟨G_1, 0, none⟩) 1 1, .slice (some ⟨G_3, 0, none⟩) 3 3, .slice (some ⟨G_15, 0, none⟩) 1 1, .int .i64 9, .slice (some ⟨G_17, 0, none⟩) 1 1, .int .i64 1, .int .i64 0, .int .i64 0]) := ⟨_, rfl⟩
 have st9 : St S9 := by rw [hSd]; infer_instance
 have D9 : Hid (∀ W, S9 W → S8 W) := by show ∀ W, _; rw [hSd]; exact fun W h => h.1
 have F_C : Hid (∀ W, S9 W → Row W G_19 31 #[.int .i64 1, .slice (some ⟨G_1, 0, none⟩) 1 1, .slice (some ⟨G_3, 0, none⟩) 3 3, .slice (some ⟨G_15, 0, none⟩) 1 1, .int .i64 9, .slice (some ⟨G_17, 0, none⟩) 1 1, .int .i64 1, .int .i64 0, .int .i64 0]) := by show ∀ W, _; rw [hSd]; exact fun W h => h.2
 have HS9 : Hid (S9 w_21) := by show S9 w_21; rw [hSd]; exact ⟨hprev, rH⟩
 clear hSd
 clear hprev HS8 hG rG bG rH oH bH
 have F_okc : Hid (∀ W, S9 W → CpOk W (cE G_1 G_3 G_8 G_13 G_15 G_17)) := by show ∀ W, _; exact fun W hW => cE_ok (F_v1.out _ (D2.out _ (D3.out _ (D4.out _ (D5.out _ (D6.out _ (D7.out _ (D8.out _ (D9.out _ hW))))))))) (F_n1.out _ (D3.out _ (D4.out _ (D5.out _ (D6.out _ (D7.out _ (D8.out _ (D9.out _ hW)))))))) (F_d1.out _ (D5.out _ (D6.out _ (D7.out _ (D8.out _ (D9.out _ hW)))))) (F_t1.out _ (D7.out _ (D8.out _ (D9.out _ hW)))) (F_T1.out _ (D8.out _ (D9.out _ hW))) (F_M1.out _ (D9.out _ hW))
 go_wp2_with (first | (refine wpList_load_row rfl 25 _ rfl G_5 rfl 25 #[.int .i64 1, .slice (some ⟨G_1, 0, none⟩) 1 1, .slice (some ⟨G_3, 0, none⟩) 3 3] (0, 0) _ (F_P.out _ (D4.out _ (D5.out _ (D6.out _ (D7.out _ (D8.out _ (D9.out _ HS9.out))))))) Tryz.underlying25 rfl (by kernel_rfl) ?_) | (refine at_slice _ _ _ rfl ?_))
 refine Stop.to ?_
 refine wpList_slice_gen rfl 22 1 _ rfl 3 (ints [1]).toArray (bs_run Tryz.underlying22 info_iE (by decide) (by decide) (by kernel_rfl)) ?_
 intro G_22 w_23 hG rG bG
 have hprev := st9.go HS9.out (bG.mono hG)
 obtain ⟨S10, hSd⟩ : ∃ S : World → Prop, S = (fun W => S9 W ∧ Row W G_22 3 (ints [1]).toArray) := ⟨_, rfl⟩
 have st10 : St S10 := by rw [hSd]; infer_instance
 have D10 : Hid (∀ W, S10 W → S9 W) := by show ∀ W, _; rw [hSd]; exact fun W h => h.1
 have F_t2 : Hid (∀ W, S10 W → Row W G_22 3 (ints [1]).toArray) := by show ∀ W, _; rw [hSd]; exact fun W h => h.2
 have HS10 : Hid (S10 w_23) := by show S10 w_23; rw [hSd]; exact ⟨hprev, rG⟩
 clear hSd
 clear hprev HS9 hG rG bG
 go_wp2_with (refine at_slice _ _ _ rfl ?_)
 refine Stop.to ?_
 refine wpList_slice_gen rfl 26 1 _ rfl 22 (tstC [tvE G_22]).toArray (bs_run Tryz.underlying26 info_tE (by decide) (by decide) (by kernel_rfl)) ?_
 intro G_24 w_25 hG rG bG
 have hprev := st10.go HS10.out (bG.mono hG)
 obtain ⟨S11, hSd⟩ : ∃ S : World → Prop, S = (fun W => S10 W ∧ Row W G_24 22 (tstC [tvE G_22]).toArray) := ⟨_, rfl⟩
 have st11 : St S11 := by rw [hSd]; infer_instance
 have D11 : Hid (∀ W, S11 W → S10 W) := by show ∀ W, _; rw [hSd]; exact fun W h => h.1
 have F_T2 : Hid (∀ W, S11 W → Row W G_24 22 (tstC [tvE G_22]).toArray) := by show ∀ W, _; rw [hSd]; exact fun W h => h.2
 have HS11 : Hid (S11 w_25) := by show S11 w_25; rw [hSd]; exact ⟨hprev, rG⟩
 clear hSd
 clear hprev HS10 hG rG bG
 go_wp2_with (refine at_alloc _ rfl ?_)
 refine Stop.to ?_
 refine wpList_alloc_gen rfl 31 rfl _ _ (zero_cp _) rfl ?_
 intro G_26 w_27 hG rG bG
 go_wp2_with (refine at_store _ _ _ rfl ?_)
 refine Stop.to ?_
 refine wpList_store_gen rfl 31 _ _ rfl G_26 #[.int .i64 1, .slice (some ⟨G_1, 0, none⟩) 1 1, .slice (some ⟨G_3, 0, none⟩) 3 3, .slice (some ⟨G_24, 0, none⟩) 1 1, .int .i64 9, .slice none 0 0, .int .i64 0, .int .i64 0, .int .i64 0] rfl rfl 31 _ rG (by kernel_rfl) rfl (by simp [Value.oneCell']) ?_
 intro w_28 rH oH
 have bH : Below (w_25).heap.size w_25 w_28 := (bG.mono hG).trans (oH.below hG)
 have hGD : w.heap.size ≤ G_26 := Nat.le_trans (F_low.out _ (D1.out _ (D2.out _ (D3.out _ (D4.out _ (D5.out _ (D6.out _ (D7.out _ (D8.out _ (D9.out _ (D10.out _ (D11.out _ HS11.out)))))))))))).size hG
 have hprev := st11.go HS11.out (bH)
 obtain ⟨S12, hSd⟩ : ∃ S : World → Prop, S = (fun W => S11 W ∧ Row W G_26 31 #[.int .i64 1, .slice (some ⟨G_1, 0, none⟩) 1 1, .slice (some ⟨G_3, 0, none⟩) 3 3, .slice (some ⟨G_24, 0, none⟩) 1 1, .int .i64 9, .slice none 0 0, .int .i64 0, .int .i64 0, .int .i64 0]) := ⟨_, rfl⟩
 have st12 : St S12 := by rw [hSd]; infer_instance
 have D12 : Hid (∀ W, S12 W → S11 W) := by show ∀ W, _; rw [hSd]; exact fun W h => h.1
 have F_D : Hid (∀ W, S12 W → Row W G_26 31 #[.int .i64 1, .slice (some ⟨G_1, 0, none⟩) 1 1, .slice (some ⟨G_3, 0, none⟩) 3 3, .slice (some ⟨G_24, 0, none⟩) 1 1, .int .i64 9, .slice none 0 0, .int .i64 0, .int .i64 0, .int .i64 0]) := by show ∀ W, _; rw [hSd]; exact fun W h => h.2
 have HS12 : Hid (S12 w_28) := by show S12 w_28; rw [hSd]; exact ⟨hprev, rH⟩
 clear hSd
 clear hprev HS11 hG rG bG rH oH bH
 have F_okd : Hid (∀ W, S12 W → CpOk W (dE G_1 G_3 G_22 G_24 9)) := by show ∀ W, _; exact fun W hW => dE_ok (F_v1.out _ (D2.out _ (D3.out _ (D4.out _ (D5.out _ (D6.out _ (D7.out _ (D8.out _ (D9.out _ (D10.out _ (D11.out _ (D12.out _ hW)))))))))))) (F_n1.out _ (D3.out _ (D4.out _ (D5.out _ (D6.out _ (D7.out _ (D8.out _ (D9.out _ (D10.out _ (D11.out _ (D12.out _ hW))))))))))) (F_t2.out _ (D11.out _ (D12.out _ hW))) (F_T2.out _ (D12.out _ hW))
 go_wp2_with (first | (refine wpList_load_row rfl 31 _ rfl G_26 rfl 31 #[.int .i64 1, .slice (some ⟨G_1, 0, none⟩) 1 1, .slice (some ⟨G_3, 0, none⟩) 3 3, .slice (some ⟨G_24, 0, none⟩) 1 1, .int .i64 9, .slice none 0 0, .int .i64 0, .int .i64 0, .int .i64 0] (0, 0) _ (F_D.out _ HS12.out) Tryz.underlying31 rfl (by kernel_rfl) ?_) | (refine wpList_load_row rfl 31 _ rfl G_19 rfl 31 #[.int .i64 1, .slice (some ⟨G_1, 0, none⟩) 1 1, .slice (some ⟨G_3, 0, none⟩) 3 3, .slice (some ⟨G_15, 0, none⟩) 1 1, .int .i64 9, .slice (some ⟨G_17, 0, none⟩) 1 1, .int .i64 1, .int .i64 0, .int .i64 0] (0, 0) _ (F_C.out _ (D10.out _ (D11.out _ (D12.out _ HS12.out)))) Tryz.underlying31 rfl (by kernel_rfl) ?_))
 refine (merge_any (dE G_1 G_3 G_22 G_24 9) (cE G_1 G_3 G_8 G_13 G_15 G_17) w_28 (F_okd.out _ HS12.out) (F_okc.out _ (D10.out _ (D11.out _ (D12.out _ HS12.out))))).mono ?_
 rintro e w_29 ⟨cx, rfl, hcx, hdx, bb, htx⟩
 rw [mgZ_0 (joinsE _ _ _ _ _ _ _ _), mergeE_E] at hdx
 have Hdx := Lib.hid hdx
 clear hdx
 rw [mergeE_0.2 (joinsE _ _ _ _ _ _ _ _)]
 have hprev := st12.go HS12.out (bb)
 obtain ⟨S13, hSd⟩ : ∃ S : World → Prop, S = (fun W => S12 W ∧ CpOk W cx ∧ CpT W cx) := ⟨_, rfl⟩
 have st13 : St S13 := by rw [hSd]; infer_instance
 have D13 : Hid (∀ W, S13 W → S12 W) := by show ∀ W, _; rw [hSd]; exact fun W h => h.1
 have F_okx : Hid (∀ W, S13 W → CpOk W cx) := by show ∀ W, _; rw [hSd]; exact fun W h => h.2.1
 have F_tx : Hid (∀ W, S13 W → CpT W cx) := by show ∀ W, _; rw [hSd]; exact fun W h => h.2.2
 have HS13 : Hid (S13 w_29) := by show S13 w_29; rw [hSd]; exact ⟨hprev, hcx, htx⟩
 clear hSd
 clear hprev HS12 bb hcx htx
 go_wp2_with (refine at_alloc _ rfl ?_)
 refine Stop.to ?_
 refine wpList_alloc_gen rfl 31 rfl _ _ (zero_cp _) rfl ?_
 intro G_30 w_31 hG rG bG
 go_wp2_with (refine at_store _ _ _ rfl ?_)
 refine Stop.to ?_
 refine wpList_store_gen rfl 31 _ _ rfl G_30 cx.cells rfl rfl 31 _ rG (by kernel_rfl) rfl (by simp [CpV.cells, Value.oneCell']) ?_
 intro w_32 rH oH
 have bH : Below (w_29).heap.size w_29 w_32 := (bG.mono hG).trans (oH.below hG)
 have hXD : G_30 ≠ G_26 := Nat.ne_of_gt (Nat.lt_of_lt_of_le (F_D.out _ (D13.out _ HS13.out)).lt hG)
 have hprev := st13.go HS13.out (bH)
 obtain ⟨S14, hSd⟩ : ∃ S : World → Prop, S = (fun W => S13 W ∧ Row W G_30 31 cx.cells) := ⟨_, rfl⟩
 have st14 : St S14 := by rw [hSd]; infer_instance
 have D14 : Hid (∀ W, S14 W → S13 W) := by show ∀ W, _; rw [hSd]; exact fun W h => h.1
 have F_X : Hid (∀ W, S14 W → Row W G_30 31 cx.cells) := by show ∀ W, _; rw [hSd]; exact fun W h => h.2
 have HS14 : Hid (S14 w_32) := by show S14 w_32; rw [hSd]; exact ⟨hprev, rH⟩
 clear hSd
 clear hprev HS13 hG rG bG rH oH bH
 go_wp2_with (first | (refine wpList_load_row rfl 31 _ rfl G_19 rfl 31 #[.int .i64 1, .slice (some ⟨G_1, 0, none⟩) 1 1, .slice (some ⟨G_3, 0, none⟩) 3 3, .slice (some ⟨G_15, 0, none⟩) 1 1, .int .i64 9, .slice (some ⟨G_17, 0, none⟩) 1 1, .int .i64 1, .int .i64 0, .int .i64 0] (0, 0) _ (F_C.out _ (D10.out _ (D11.out _ (D12.out _ (D13.out _ (D14.out _ HS14.out)))))) Tryz.underlying31 rfl (by kernel_rfl) ?_) | (refine wpList_load_row rfl 31 _ rfl G_26 rfl 31 #[.int .i64 1, .slice (some ⟨G_1, 0, none⟩) 1 1, .slice (some ⟨G_3, 0, none⟩) 3 3, .slice (some ⟨G_24, 0, none⟩) 1 1, .int .i64 9, .slice none 0 0, .int .i64 0, .int .i64 0, .int .i64 0] (0, 0) _ (F_D.out _ (D13.out _ (D14.out _ HS14.out))) Tryz.underlying31 rfl (by kernel_rfl) ?_))
 refine (diff_any (cE G_1 G_3 G_8 G_13 G_15 G_17) (dE G_1 G_3 G_22 G_24 9) w_32 (F_okc.out _ (D10.out _ (D11.out _ (D12.out _ (D13.out _ (D14.out _ HS14.out)))))) (F_okd.out _ (D13.out _ (D14.out _ HS14.out)))).mono ?_
 rintro e w_33 ⟨A, cap, cs, rfl, hrd, hle, hni, -, hcs, bb, hrt⟩
 rw [diffE_E, if_pos rfl] at hcs
 rw [diffE_E]
 rw [show diffL (CpV.muts (cE G_1 G_3 G_8 G_13 G_15 G_17)) (CpV.muts (dE G_1 G_3 G_22 G_24 9)) = [(⟨[0], 5, 0⟩, 0, -1)] from diffL_E] at hcs
 obtain ⟨ch, rfl⟩ : ∃ ch, cs = [ch] := by
  have h9 := congrArg List.length hcs
  match cs, h9 with
  | [ch], _ => exact ⟨ch, rfl⟩
 have Hch : Hid (ch.a = 0 ∧ ch.b = -1) := by
  have h9 : ChV.data ch = (⟨[0], 5, 0⟩, 0, -1) := by simpa using hcs
  exact ⟨congrArg (fun x => x.2.1) h9, congrArg (fun x => x.2.2) h9⟩
 clear hcs
 have hprev := st14.go HS14.out (bb)
 obtain ⟨S15, hSd⟩ : ∃ S : World → Prop, S = (fun W => S14 W ∧ Rd W A (chsC [ch]) ∧ RowB W 51 A) := ⟨_, rfl⟩
 have st15 : St S15 := by rw [hSd]; infer_instance
 have D15 : Hid (∀ W, S15 W → S14 W) := by show ∀ W, _; rw [hSd]; exact fun W h => h.1
 have F_rdl : Hid (∀ W, S15 W → Rd W A (chsC [ch])) := by show ∀ W, _; rw [hSd]; exact fun W h => h.2.1
 have F_tl : Hid (∀ W, S15 W → RowB W 51 A) := by show ∀ W, _; rw [hSd]; exact fun W h => h.2.2
 have HS15 : Hid (S15 w_33) := by show S15 w_33; rw [hSd]; exact ⟨hprev, hrd, hrt⟩
 clear hSd
 clear hprev HS14 bb hrd hle hni hrt
 go_wp2_with (refine at_store _ _ _ rfl ?_)
 refine Stop.to ?_
 refine wpList_store_part rfl 3 _ _ rfl G_26 4 rfl (.int .i64 8) rfl [.int .i64 8] rfl 31 _ #[.int .i64 1, .slice (some ⟨G_1, 0, none⟩) 1 1, .slice (some ⟨G_3, 0, none⟩) 3 3, .slice (some ⟨G_24, 0, none⟩) 1 1, .int .i64 8, .slice none 0 0, .int .i64 0, .int .i64 0, .int .i64 0] (F_D.out _ (D13.out _ (D14.out _ (D15.out _ HS15.out)))) (by kernel_rfl) (by show 4 + 1 ≤ 9; omega) (by simp [Value.oneCell']) rfl ?_
 intro w_34 rD8 oD
 have hne : ∀ (i : Nat) (t : TypeId) (cs : Array Value), Row w_33 i t cs → t ≠ 31 → i ≠ G_26 := fun i t cs hr ht e => by
  have h9 : (w_33).heap[G_26]? = some (.cells cs t (0, 0)) := by rw [← e]; exact hr
  rw [show (w_33).heap[G_26]? = some (.cells _ 31 (0, 0)) from (F_D.out _ (D13.out _ (D14.out _ (D15.out _ HS15.out))))] at h9
  injection h9 with h9; injection h9 with _ h9; exact ht h9.symm
 have hCD : G_19 ≠ G_26 := by
  intro e
  have h1 := (F_C.out _ (D10.out _ (D11.out _ (D12.out _ (D13.out _ (D14.out _ (D15.out _ HS15.out))))))).cellv (i := 5) (v := .slice (some ⟨G_17, 0, none⟩) 1 1) rfl
  rw [e, (F_D.out _ (D13.out _ (D14.out _ (D15.out _ HS15.out)))).cellv (i := 5) (v := .slice none 0 0) rfl] at h1
  cases h1
 obtain ⟨S16, hSd⟩ : ∃ S : World → Prop, S = (fun W => Below w.heap.size w W ∧ Row W G_1 3 (ints [0]).toArray ∧ Row W G_3 74 (bodyE.flatMap Nd.cells).toArray ∧ Row W G_8 3 (ints [0]).toArray ∧ Row W G_13 3 (ints [1]).toArray ∧ Row W G_15 22 (tstC [tvE G_13]).toArray ∧ Row W G_17 47 (mtsC [mvE G_8]).toArray ∧ Row W G_22 3 (ints [1]).toArray ∧ Row W G_24 22 (tstC [tvE G_22]).toArray ∧ Row W G_19 31 #[.int .i64 1, .slice (some ⟨G_1, 0, none⟩) 1 1, .slice (some ⟨G_3, 0, none⟩) 3 3, .slice (some ⟨G_15, 0, none⟩) 1 1, .int .i64 9, .slice (some ⟨G_17, 0, none⟩) 1 1, .int .i64 1, .int .i64 0, .int .i64 0] ∧ Row W G_30 31 cx.cells ∧ Row W G_26 31 #[.int .i64 1, .slice (some ⟨G_1, 0, none⟩) 1 1, .slice (some ⟨G_3, 0, none⟩) 3 3, .slice (some ⟨G_24, 0, none⟩) 1 1, .int .i64 8, .slice none 0 0, .int .i64 0, .int .i64 0, .int .i64 0] ∧ CpOk W cx ∧ Rd W A (chsC [ch])) := ⟨_, rfl⟩
 have st16 : St S16 := by rw [hSd]; infer_instance
 have F_low2 : Hid (∀ W, S16 W → Below w.heap.size w W) := by show ∀ W, _; rw [hSd]; exact fun W h => h.1
 have F_v1x : Hid (∀ W, S16 W → Row W G_1 3 (ints [0]).toArray) := by show ∀ W, _; rw [hSd]; exact fun W h => h.2.1
 have F_n1x : Hid (∀ W, S16 W → Row W G_3 74 (bodyE.flatMap Nd.cells).toArray) := by show ∀ W, _; rw [hSd]; exact fun W h => h.2.2.1
 have F_d1x : Hid (∀ W, S16 W → Row W G_8 3 (ints [0]).toArray) := by show ∀ W, _; rw [hSd]; exact fun W h => h.2.2.2.1
 have F_t1x : Hid (∀ W, S16 W → Row W G_13 3 (ints [1]).toArray) := by show ∀ W, _; rw [hSd]; exact fun W h => h.2.2.2.2.1
 have F_T1x : Hid (∀ W, S16 W → Row W G_15 22 (tstC [tvE G_13]).toArray) := by show ∀ W, _; rw [hSd]; exact fun W h => h.2.2.2.2.2.1
 have F_M1x : Hid (∀ W, S16 W → Row W G_17 47 (mtsC [mvE G_8]).toArray) := by show ∀ W, _; rw [hSd]; exact fun W h => h.2.2.2.2.2.2.1
 have F_t2x : Hid (∀ W, S16 W → Row W G_22 3 (ints [1]).toArray) := by show ∀ W, _; rw [hSd]; exact fun W h => h.2.2.2.2.2.2.2.1
 have F_T2x : Hid (∀ W, S16 W → Row W G_24 22 (tstC [tvE G_22]).toArray) := by show ∀ W, _; rw [hSd]; exact fun W h => h.2.2.2.2.2.2.2.2.1
 have F_Cx : Hid (∀ W, S16 W → Row W G_19 31 #[.int .i64 1, .slice (some ⟨G_1, 0, none⟩) 1 1, .slice (some ⟨G_3, 0, none⟩) 3 3, .slice (some ⟨G_15, 0, none⟩) 1 1, .int .i64 9, .slice (some ⟨G_17, 0, none⟩) 1 1, .int .i64 1, .int .i64 0, .int .i64 0]) := by show ∀ W, _; rw [hSd]; exact fun W h => h.2.2.2.2.2.2.2.2.2.1
 have F_Xx : Hid (∀ W, S16 W → Row W G_30 31 cx.cells) := by show ∀ W, _; rw [hSd]; exact fun W h => h.2.2.2.2.2.2.2.2.2.2.1
 have F_Dx : Hid (∀ W, S16 W → Row W G_26 31 #[.int .i64 1, .slice (some ⟨G_1, 0, none⟩) 1 1, .slice (some ⟨G_3, 0, none⟩) 3 3, .slice (some ⟨G_24, 0, none⟩) 1 1, .int .i64 8, .slice none 0 0, .int .i64 0, .int .i64 0, .int .i64 0]) := by show ∀ W, _; rw [hSd]; exact fun W h => h.2.2.2.2.2.2.2.2.2.2.2.1
 have F_okxx : Hid (∀ W, S16 W → CpOk W cx) := by show ∀ W, _; rw [hSd]; exact fun W h => h.2.2.2.2.2.2.2.2.2.2.2.2.1
 have F_rdlx : Hid (∀ W, S16 W → Rd W A (chsC [ch])) := by show ∀ W, _; rw [hSd]; exact fun W h => h.2.2.2.2.2.2.2.2.2.2.2.2.2
 have HS16 : Hid (S16 w_34) := by show S16 w_34; have E14 := D15.out _ HS15.out; have E13 := D14.out _ E14; have E12 := D13.out _ E13; have E11 := D12.out _ E12; have E10 := D11.out _ E11; have E9 := D10.out _ E10; have E8 := D9.out _ E9; have E7 := D8.out _ E8; have E6 := D7.out _ E7; have E5 := D6.out _ E6; have E4 := D5.out _ E5; have E3 := D4.out _ E4; have E2 := D3.out _ E3; have E1 := D2.out _ E2; have E0 := D1.out _ E1; rw [hSd]; exact ⟨below_only (F_low.out _ E0) oD hGD, (F_v1.out _ E1).only oD (hne _ _ _ (F_v1.out _ E1) (by decide)), (F_n1.out _ E2).only oD (hne _ _ _ (F_n1.out _ E2) (by decide)), (F_d1.out _ E4).only oD (hne _ _ _ (F_d1.out _ E4) (by decide)), (F_t1.out _ E6).only oD (hne _ _ _ (F_t1.out _ E6) (by decide)), (F_T1.out _ E7).only oD (hne _ _ _ (F_T1.out _ E7) (by decide)), (F_M1.out _ E8).only oD (hne _ _ _ (F_M1.out _ E8) (by decide)), (F_t2.out _ E10).only oD (hne _ _ _ (F_t2.out _ E10) (by decide)), (F_T2.out _ E11).only oD (hne _ _ _ (F_T2.out _ E11) (by decide)), (F_C.out _ E9).only oD hCD, (F_X.out _ E14).only oD hXD, rD8, (F_okx.out _ E13).onlyT (F_tx.out _ E13) oD (F_D.out _ E12), (F_rdl.out _ HS15.out).only oD (fun _ ad e => by obtain ⟨_, h⟩ := (F_tl.out _ HS15.out) ad e; exact hne _ _ _ h (by decide))⟩
 clear hSd
 clear hne hCD hXD rD8 oD HS15
 have F_okc8 : Hid (∀ W, S16 W → CpOk W (cE G_1 G_3 G_8 G_13 G_15 G_17)) := by show ∀ W, _; exact fun W hW => cE_ok (F_v1x.out _ hW) (F_n1x.out _ hW) (F_d1x.out _ hW) (F_t1x.out _ hW) (F_T1x.out _ hW) (F_M1x.out _ hW)
 have F_okd8 : Hid (∀ W, S16 W → CpOk W (dE G_1 G_3 G_22 G_24 8)) := by show ∀ W, _; exact fun W hW => dE_ok (F_v1x.out _ hW) (F_n1x.out _ hW) (F_t2x.out _ hW) (F_T2x.out _ hW)
 go_wp2_with (first | (refine wpList_load_row rfl 31 _ rfl G_26 rfl 31 #[.int .i64 1, .slice (some ⟨G_1, 0, none⟩) 1 1, .slice (some ⟨G_3, 0, none⟩) 3 3, .slice (some ⟨G_24, 0, none⟩) 1 1, .int .i64 8, .slice none 0 0, .int .i64 0, .int .i64 0, .int .i64 0] (0, 0) _ (F_Dx.out _ HS16.out) Tryz.underlying31 rfl (by kernel_rfl) ?_) | (refine wpList_load_row rfl 31 _ rfl G_19 rfl 31 #[.int .i64 1, .slice (some ⟨G_1, 0, none⟩) 1 1, .slice (some ⟨G_3, 0, none⟩) 3 3, .slice (some ⟨G_15, 0, none⟩) 1 1, .int .i64 9, .slice (some ⟨G_17, 0, none⟩) 1 1, .int .i64 1, .int .i64 0, .int .i64 0] (0, 0) _ (F_Cx.out _ HS16.out) Tryz.underlying31 rfl (by kernel_rfl) ?_))
 refine (merge_any (dE G_1 G_3 G_22 G_24 8) (cE G_1 G_3 G_8 G_13 G_15 G_17) w_34 (F_okd8.out _ HS16.out) (F_okc8.out _ HS16.out)).mono ?_
 rintro e w_35 ⟨cy, rfl, -, -, bb, -⟩
 rw [mergeE_8]
 have hprev := st16.go HS16.out (bb)
 replace HS16 := Lib.hid hprev
 clear hprev bb
 go_wp2_with (refine at_alloc _ rfl ?_)
 refine Stop.to ?_
 refine wpList_alloc_gen rfl 31 rfl _ _ (zero_cp _) rfl ?_
 intro G_36 w_37 hG rG bG
 go_wp2_with (refine at_store _ _ _ rfl ?_)
 refine Stop.to ?_
 refine wpList_store_gen rfl 31 _ _ rfl G_36 cy.cells rfl rfl 31 _ rG (by kernel_rfl) rfl (by simp [CpV.cells, Value.oneCell']) ?_
 intro w_38 rH oH
 have bH : Below (w_35).heap.size w_35 w_38 := (bG.mono hG).trans (oH.below hG)
 have hprev := st16.go HS16.out (bH)
 obtain ⟨S17, hSd⟩ : ∃ S : World → Prop, S = (fun W => S16 W ∧ Row W G_36 31 cy.cells) := ⟨_, rfl⟩
 have st17 : St S17 := by rw [hSd]; infer_instance
 have D17 : Hid (∀ W, S17 W → S16 W) := by show ∀ W, _; rw [hSd]; exact fun W h => h.1
 have F_Y : Hid (∀ W, S17 W → Row W G_36 31 cy.cells) := by show ∀ W, _; rw [hSd]; exact fun W h => h.2
 have HS17 : Hid (S17 w_38) := by show S17 w_38; rw [hSd]; exact ⟨hprev, rH⟩
 clear hSd
 clear hprev HS16 hG rG bG rH oH bH
 go_wp2_with (refine wpList_load_row rfl 31 _ rfl G_19 rfl 31 #[.int .i64 1, .slice (some ⟨G_1, 0, none⟩) 1 1, .slice (some ⟨G_3, 0, none⟩) 3 3, .slice (some ⟨G_15, 0, none⟩) 1 1, .int .i64 9, .slice (some ⟨G_17, 0, none⟩) 1 1, .int .i64 1, .int .i64 0, .int .i64 0] (0, 0) _ (F_Cx.out _ (D17.out _ HS17.out)) Tryz.underlying31 rfl (by kernel_rfl) ?_)
 refine (merge_any cp0 (cE G_1 G_3 G_8 G_13 G_15 G_17) w_38 (cp0_ok _) (F_okc8.out _ (D17.out _ HS17.out))).mono ?_
 rintro e w_39 ⟨cz, rfl, -, -, bb, -⟩
 rw [mergeE_z]
 have hprev := st17.go HS17.out (bb)
 replace HS17 := Lib.hid hprev
 clear hprev bb
 go_wp2_with (refine at_alloc _ rfl ?_)
 refine Stop.to ?_
 refine wpList_alloc_gen rfl 31 rfl _ _ (zero_cp _) rfl ?_
 intro G_40 w_41 hG rG bG
 go_wp2_with (refine at_store _ _ _ rfl ?_)
 refine Stop.to ?_
 refine wpList_store_gen rfl 31 _ _ rfl G_40 cz.cells rfl rfl 31 _ rG (by kernel_rfl) rfl (by simp [CpV.cells, Value.oneCell']) ?_
 intro w_42 rH oH
 have bH : Below (w_39).heap.size w_39 w_42 := (bG.mono hG).trans (oH.below hG)
 have hprev := st17.go HS17.out (bH)
 obtain ⟨S18, hSd⟩ : ∃ S : World → Prop, S = (fun W => S17 W ∧ Row W G_40 31 cz.cells) := ⟨_, rfl⟩
 have st18 : St S18 := by rw [hSd]; infer_instance
 have D18 : Hid (∀ W, S18 W → S17 W) := by show ∀ W, _; rw [hSd]; exact fun W h => h.1
 have F_Z : Hid (∀ W, S18 W → Row W G_40 31 cz.cells) := by show ∀ W, _; rw [hSd]; exact fun W h => h.2
 have HS18 : Hid (S18 w_42) := by show S18 w_42; rw [hSd]; exact ⟨hprev, rH⟩
 clear hSd
 clear hprev HS17 hG rG bG rH oH bH
 go_wp2_with (first | (refine wpList_load_row rfl 31 _ rfl G_30 rfl 31 cx.cells (0, 0) _ (F_Xx.out _ (D17.out _ (D18.out _ HS18.out))) Tryz.underlying31 rfl (by kernel_rfl) ?_) | (refine wpList_load_row rfl 31 _ rfl G_19 rfl 31 #[.int .i64 1, .slice (some ⟨G_1, 0, none⟩) 1 1, .slice (some ⟨G_3, 0, none⟩) 3 3, .slice (some ⟨G_15, 0, none⟩) 1 1, .int .i64 9, .slice (some ⟨G_17, 0, none⟩) 1 1, .int .i64 1, .int .i64 0, .int .i64 0] (0, 0) _ (F_Cx.out _ (D17.out _ (D18.out _ HS18.out))) Tryz.underlying31 rfl (by kernel_rfl) ?_))
 refine (refCpSame_any cx (cE G_1 G_3 G_8 G_13 G_15 G_17) w_42 (F_okxx.out _ (D17.out _ (D18.out _ HS18.out))) (F_okc8.out _ (D17.out _ (D18.out _ HS18.out)))).mono ?_
 rintro e w_43 ⟨rfl, bb⟩
 rw [show sameC cx (cE G_1 G_3 G_8 G_13 G_15 G_17) = true from sameC_iff.2 Hdx.out]
 have hprev := st18.go HS18.out (bb)
 replace HS18 := Lib.hid hprev
 clear hprev bb
 obtain ⟨ad, had, _⟩ := chV_at (l := [ch]) (F_rdlx.out _ (D17.out _ (D18.out _ HS18.out))) (k := 0) rfl
 have c3 : (w_43).cell? ⟨ad.block, ad.off + 3, none⟩ = some (.int .i64 0) := by
  obtain ⟨ad2, e2, h2⟩ := chV_at (l := [ch]) (F_rdlx.out _ (D17.out _ (D18.out _ HS18.out))) (k := 0) rfl
  rw [had] at e2; injection e2 with e2; subst e2
  have h3 := h2 3 (.int .i64 ch.a) rfl
  rw [Hch.out.1] at h3; exact h3
 have c4 : (w_43).cell? ⟨ad.block, ad.off + 4, none⟩ = some (.int .i64 (-1)) := by
  obtain ⟨ad2, e2, h2⟩ := chV_at (l := [ch]) (F_rdlx.out _ (D17.out _ (D18.out _ HS18.out))) (k := 0) rfl
  rw [had] at e2; injection e2 with e2; subst e2
  have h3 := h2 4 (.int .i64 ch.b) rfl
  rw [Hch.out.2] at h3; exact h3
 subst had
 go_wp2_with fail
 go_ret
 exact ⟨rfl, (F_low2.out _ (D17.out _ (D18.out _ HS18.out)))⟩
end Go.Proofs.YtcgglolckkeeiaaGreat
namespace Go.Proofs.YtcgglolckkeeiaaGreat
set_option linter.unusedVariables false
open Go.RowKit Go.Deep
set_option maxRecDepth 100000 in
set_option maxHeartbeats 16000000 in
theorem joinApart_walk (a b : CpV) (d : DlV) (w : World) (ha : CpRaw w a ∧ CpIn a) (hb : CpRaw w b ∧ CpIn b) (hd : DlRaw w d) : Calls Tryz.prog 6 #[.agg a.cells, .agg b.cells, .agg d.cells] w fun e w' => e = .returned (.bool true) ∧ Below w.heap.size w w' := by
 go_enter Tryz.func6, Tryz.ntmps6
 obtain ⟨S0, hSd⟩ : ∃ S : World → Prop, S = (fun W => Below w.heap.size w W ∧ CpRaw W a ∧ CpRaw W b ∧ DlRaw W d) := ⟨_, rfl⟩
 have st0 : St S0 := by rw [hSd]; infer_instance
 have F_low : Hid (∀ W, S0 W → Below w.heap.size w W) := by show ∀ W, _; rw [hSd]; exact fun W h => h.1
 have F_ra : Hid (∀ W, S0 W → CpRaw W a) := by show ∀ W, _; rw [hSd]; exact fun W h => h.2.1
 have F_rb : Hid (∀ W, S0 W → CpRaw W b) := by show ∀ W, _; rw [hSd]; exact fun W h => h.2.2.1
 have F_rd : Hid (∀ W, S0 W → DlRaw W d) := by show ∀ W, _; rw [hSd]; exact fun W h => h.2.2.2
 have HS0 : Hid (S0 w) := by show S0 w; rw [hSd]; exact ⟨Below.refl _ _, ha.1, hb.1, hd⟩
 clear hSd
 have HIa : Hid (CpIn a) := ha.2
 have HIb : Hid (CpIn b) := hb.2
 clear ha hb hd
 go_wp2_with (refine at_box _ _ rfl ?_)
 refine Stop.to ?_
 refine wpList_box_gen rfl 31 _ rfl a.cells rfl ?_
 intro G_1 w_2 hG rG bG
 have hprev := st0.go HS0.out (bG.mono hG)
 obtain ⟨S1, hSd⟩ : ∃ S : World → Prop, S = (fun W => S0 W ∧ Row W G_1 31 a.cells) := ⟨_, rfl⟩
 have st1 : St S1 := by rw [hSd]; infer_instance
 have D1 : Hid (∀ W, S1 W → S0 W) := by show ∀ W, _; rw [hSd]; exact fun W h => h.1
 have F_A : Hid (∀ W, S1 W → Row W G_1 31 a.cells) := by show ∀ W, _; rw [hSd]; exact fun W h => h.2
 have HS1 : Hid (S1 w_2) := by show S1 w_2; rw [hSd]; exact ⟨hprev, rG⟩
 clear hSd
 clear hprev HS0 hG rG bG
 go_wp2_with (refine at_box _ _ rfl ?_)
 refine Stop.to ?_
 refine wpList_box_gen rfl 31 _ rfl b.cells rfl ?_
 intro G_3 w_4 hG rG bG
 have hprev := st1.go HS1.out (bG.mono hG)
 obtain ⟨S2, hSd⟩ : ∃ S : World → Prop, S = (fun W => S1 W ∧ Row W G_3 31 b.cells) := ⟨_, rfl⟩
 have st2 : St S2 := by rw [hSd]; infer_instance
 have D2 : Hid (∀ W, S2 W → S1 W) := by show ∀ W, _; rw [hSd]; exact fun W h => h.1
 have F_B : Hid (∀ W, S2 W → Row W G_3 31 b.cells) := by show ∀ W, _; rw [hSd]; exact fun W h => h.2
 have HS2 : Hid (S2 w_4) := by show S2 w_4; rw [hSd]; exact ⟨hprev, rG⟩
 clear hSd
 clear hprev HS1 hG rG bG
 go_wp2_with (refine at_box _ _ rfl ?_)
 refine Stop.to ?_
 refine wpList_box_gen rfl 42 _ rfl d.cells rfl ?_
 intro G_5 w_6 hG rG bG
 have hprev := st2.go HS2.out (bG.mono hG)
 obtain ⟨S3, hSd⟩ : ∃ S : World → Prop, S = (fun W => S2 W ∧ Row W G_5 42 d.cells) := ⟨_, rfl⟩
 have st3 : St S3 := by rw [hSd]; infer_instance
 have D3 : Hid (∀ W, S3 W → S2 W) := by show ∀ W, _; rw [hSd]; exact fun W h => h.1
 have F_D : Hid (∀ W, S3 W → Row W G_5 42 d.cells) := by show ∀ W, _; rw [hSd]; exact fun W h => h.2
 have HS3 : Hid (S3 w_6) := by show S3 w_6; rw [hSd]; exact ⟨hprev, rG⟩
 clear hSd
 clear hprev HS2 hG rG bG
 go_wp2_with fail
 refine (works25_any w_6).mono ?_
 rintro e w_7 ⟨rfl, bb⟩
 have hprev := st3.go HS3.out (bb)
 replace HS3 := Lib.hid hprev
 clear hprev bb
 go_wp2_with (first | (refine wpList_load_rowG rfl 31 _ rfl G_1 rfl 31 a.cells (0, 0) _ (F_A.out _ (D2.out _ (D3.out _ HS3.out))) Tryz.underlying31 rfl (by kernel_rfl) ?_) | (refine wpList_load_rowG rfl 31 _ rfl G_3 rfl 31 b.cells (0, 0) _ (F_B.out _ (D3.out _ HS3.out)) Tryz.underlying31 rfl (by kernel_rfl) ?_) | (refine wpList_load_row rfl 31 _ rfl G_1 rfl 31 a.cells (0, 0) _ (F_A.out _ (D2.out _ (D3.out _ HS3.out))) Tryz.underlying31 rfl (by kernel_rfl) ?_) | (refine wpList_load_row rfl 31 _ rfl G_3 rfl 31 b.cells (0, 0) _ (F_B.out _ (D3.out _ HS3.out)) Tryz.underlying31 rfl (by kernel_rfl) ?_))
 refine (few25_any a b w_7 (F_ra.out _ (D1.out _ (D2.out _ (D3.out _ HS3.out)))) (F_rb.out _ (D1.out _ (D2.out _ (D3.out _ HS3.out))))).mono ?_
 rintro e w_8 ⟨rfl, bb⟩
 have hprev := st3.go HS3.out (bb)
 replace HS3 := Lib.hid hprev
 clear hprev bb
 generalize hqab : (fewC a && fewC b) = qab
 have Hqab := Lib.hid hqab
 clear hqab
 cases qab
 · skip
   go_wp2_with fail
   go_ret
   exact ⟨rfl, (F_low.out _ (D1.out _ (D2.out _ (D3.out _ HS3.out))))⟩
 have hfqab : fewC a = true ∧ fewC b = true := by have h := Hqab.out; rwa [Bool.and_eq_true] at h
 have F_oka : Hid (∀ W, S3 W → CpOk W a) := by show ∀ W, _; exact fun W hW => ((F_ra.out _ (D1.out _ (D2.out _ (D3.out _ hW))))).ok hfqab.1
 have Hma : Hid (a.mts.length ≤ 250) := (fewC_of hfqab.1).2.2.2.2.1
 have hmaI : (a.mts.length : Int) ≤ 250 := by have := Hma.out; omega
 have F_okb : Hid (∀ W, S3 W → CpOk W b) := by show ∀ W, _; exact fun W hW => ((F_rb.out _ (D1.out _ (D2.out _ (D3.out _ hW))))).ok hfqab.2
 have Hmb : Hid (b.mts.length ≤ 250) := (fewC_of hfqab.2).2.2.2.2.1
 have hmbI : (b.mts.length : Int) ≤ 250 := by have := Hmb.out; omega
 clear hfqab Hqab
 have cd := (F_D.out _ HS3.out).cellv (i := 0) (v := .slice d.A d.d.path.length d.cap) rfl
 by_cases hp : 60 < (d.d.path.length : Int)
 · skip
   go_wp2_with fail
   go_ret
   exact ⟨rfl, (F_low.out _ (D1.out _ (D2.out _ (D3.out _ HS3.out))))⟩
 clear cd
 have Hp : Hid (d.d.path.length ≤ 60) := by show _ ≤ _; omega
 have hpn : ¬ (60 < (d.d.path.length : Int)) := hp
 clear hp
 have cd := (F_D.out _ HS3.out).cellv (i := 0) (v := .slice d.A d.d.path.length d.cap) rfl
 have F_okd : Hid (∀ W, S3 W → DlOk W d) := by show ∀ W, _; exact fun W hW => ((F_rd.out _ (D1.out _ (D2.out _ (D3.out _ hW))))).ok (by have := Hp.out; omega)
 go_wp2_with (first | (refine wpList_load_row rfl 31 _ rfl G_1 rfl 31 a.cells (0, 0) _ (F_A.out _ (D2.out _ (D3.out _ HS3.out))) Tryz.underlying31 rfl (by kernel_rfl) ?_) | (refine wpList_load_row rfl 31 _ rfl G_3 rfl 31 b.cells (0, 0) _ (F_B.out _ (D3.out _ HS3.out)) Tryz.underlying31 rfl (by kernel_rfl) ?_))
 refine (diff_any a b w_8 (F_oka.out _ HS3.out) (F_okb.out _ HS3.out)).mono ?_
 rintro e w_9 ⟨A1, p1, cs, rfl, hrd, -, -, hdl, hdat, bb, -⟩
 have Hdcs := Lib.hid hdat
 clear hdat
 have hprev := st3.go HS3.out (bb)
 obtain ⟨S4, hSd⟩ : ∃ S : World → Prop, S = (fun W => S3 W ∧ Rd W A1 (chsC cs) ∧ ∀ c ∈ cs, DlOk W c.x) := ⟨_, rfl⟩
 have st4 : St S4 := by rw [hSd]; infer_instance
 have D4 : Hid (∀ W, S4 W → S3 W) := by show ∀ W, _; rw [hSd]; exact fun W h => h.1
 have F_rdcs : Hid (∀ W, S4 W → Rd W A1 (chsC cs)) := by show ∀ W, _; rw [hSd]; exact fun W h => h.2.1
 have F_dlcs : Hid (∀ W, S4 W → ∀ c ∈ cs, DlOk W c.x) := by show ∀ W, _; rw [hSd]; exact fun W h => h.2.2
 have HS4 : Hid (S4 w_9) := by show S4 w_9; rw [hSd]; exact ⟨hprev, hrd, (fun c hc => (hdl c hc).ok)⟩
 clear hSd
 clear hprev HS3 bb hrd hdl
 clear cd
 go_wp2_with (first | (refine wpList_load_row rfl 31 _ rfl G_3 rfl 31 b.cells (0, 0) _ (F_B.out _ (D3.out _ (D4.out _ HS4.out))) Tryz.underlying31 rfl (by kernel_rfl) ?_) | (refine wpList_load_row rfl 31 _ rfl G_1 rfl 31 a.cells (0, 0) _ (F_A.out _ (D2.out _ (D3.out _ (D4.out _ HS4.out)))) Tryz.underlying31 rfl (by kernel_rfl) ?_))
 refine (diff_any b a w_9 (F_okb.out _ (D4.out _ HS4.out)) (F_oka.out _ (D4.out _ HS4.out))).mono ?_
 rintro e w_10 ⟨A2, p2, ds, rfl, hrd, -, -, hdl, hdat, bb, -⟩
 have Hdds := Lib.hid hdat
 clear hdat
 have hprev := st4.go HS4.out (bb)
 obtain ⟨S5, hSd⟩ : ∃ S : World → Prop, S = (fun W => S4 W ∧ Rd W A2 (chsC ds) ∧ ∀ c ∈ ds, DlOk W c.x) := ⟨_, rfl⟩
 have st5 : St S5 := by rw [hSd]; infer_instance
 have D5 : Hid (∀ W, S5 W → S4 W) := by show ∀ W, _; rw [hSd]; exact fun W h => h.1
 have F_rdds : Hid (∀ W, S5 W → Rd W A2 (chsC ds)) := by show ∀ W, _; rw [hSd]; exact fun W h => h.2.1
 have F_dlds : Hid (∀ W, S5 W → ∀ c ∈ ds, DlOk W c.x) := by show ∀ W, _; rw [hSd]; exact fun W h => h.2.2
 have HS5 : Hid (S5 w_10) := by show S5 w_10; rw [hSd]; exact ⟨hprev, hrd, (fun c hc => (hdl c hc).ok)⟩
 clear hSd
 clear hprev HS4 bb hrd hdl
 by_cases h0 : diffE a b = 0
 rotate_left
 · have h1 : ¬ diffE b a = 0 := fun h => h0 (diffE_symm h)
   have l1 : cs.length = 0 := by have h := congrArg List.length Hdcs.out; rw [if_neg h0] at h; simpa using h
   have l2 : ds.length = 0 := by have h := congrArg List.length Hdds.out; rw [if_neg h1] at h; simpa using h
   obtain ⟨em, hem⟩ : ∃ em, em = diffE a b := ⟨_, rfl⟩
   obtain ⟨en, hen⟩ : ∃ en, en = diffE b a := ⟨_, rfl⟩
   rw [← hem, ← hen]
   rw [← hem] at h0
   have h2 : (em != 0) = true := by simpa using h0
   clear hem hen h0 h1
   go_wp2_with fail
   go_ret
   exact ⟨rfl, (F_low.out _ (D1.out _ (D2.out _ (D3.out _ (D4.out _ (D5.out _ HS5.out))))))⟩
 have h1 : diffE b a = 0 := diffE_symm h0
 have HOO : Hid (OkC a ∧ OkC b) := ⟨(diffE_0 h0).1, (diffE_0 h0).2.1⟩
 have HD1 : Hid (cs.map ChV.data = diffL a.muts b.muts) := by have h := Hdcs.out; rwa [if_pos h0] at h
 have HD2 : Hid (ds.map ChV.data = (diffL a.muts b.muts).map swC) := by have h := Hdds.out; rw [if_pos h1] at h; rw [← diffL_swap]; exact h
 rw [h0, h1]
 clear h0 h1
 have hlen : ds.length = cs.length := by have h := congrArg List.length HD2.out; rw [← HD1.out] at h; simpa using h
 have hlc : cs.length ≤ 1000 := by
  have h1 := congrArg List.length HD1.out
  rw [List.length_map] at h1
  have h2 := zipN_len a.muts b.muts 0 0
  have h3 : (diffL a.muts b.muts).length ≤ (zipN a.muts b.muts 0 0).length := List.length_filterMap_le _ _
  unfold CpV.muts at h1 h2 h3
  simp only [List.length_map] at h2
  have := Hma.out; have := Hmb.out
  omega
 have Hlc := Lib.hid hlc
 have hlcI : (cs.length : Int) ≤ 1000 := by omega
 have Hlen := Lib.hid hlen
 rw [hlen]
 clear hlen hlc
 have h0S := HS5.out
 go_wp2_with fail
 go_loopw [12, 15] (fun z i wr => ∃ (k : Nat) (c : Int), i = .int .i64 (k : Int) ∧ z = .int .i64 c ∧ k ≤ cs.length ∧ Hid (CnZ (fun p : Dl × Int × Int => p.1) d.d ((diffL a.muts b.muts).take k) c) ∧ S5 wr) (fun _ i _ => cs.length - (intOf i).toNat)
 case atStart => exact ⟨0, 0, rfl, rfl, Nat.zero_le _, CnZ.nil _ _, h0S⟩
 case round =>
  clear h0S HS5
  obtain ⟨k, c, rfl, rfl, hk, HR, hS9⟩ := hrel
  have Hcb : Hid (0 ≤ c ∧ c ≤ 1) := by show 0 ≤ c ∧ c ≤ 1; rcases HR.out with ⟨h, _⟩ | ⟨h, _⟩ <;> (rw [h]; decide)
  by_cases hkn : k < cs.length
  · skip
    obtain ⟨e, he⟩ : ∃ e, cs[k]? = some e := ⟨_, List.getElem?_eq_getElem hkn⟩
    obtain ⟨f, hf⟩ : ∃ f, ds[k]? = some f := ⟨_, List.getElem?_eq_getElem (by rw [Hlen.out]; exact hkn)⟩
    have hde : (diffL a.muts b.muts)[k]? = some e.data := by rw [← HD1.out, List.getElem?_map, he]; rfl
    have hdf : f.data = swC e.data := by
     have h : (ds.map ChV.data)[k]? = some f.data := by rw [List.getElem?_map, hf]; rfl
     rw [HD2.out, List.getElem?_map, hde] at h
     exact (Option.some.inj h).symm
    have Hde := Lib.hid hde
    have hd1 : f.x.d = e.x.d := congrArg (fun p => p.1) hdf
    have hd2 : f.a = e.b := congrArg (fun p => p.2.1) hdf
    have hd3 : f.b = e.a := congrArg (fun p => p.2.2) hdf
    have Hds : Hid (decide (cmpD e.x.d f.x.d = 0) = true) := by show _ = _; rw [hd1, cmpD_self]; rfl
    have hq1 : (e.a != f.b) = false := by rw [hd3]; simp
    have hq2 : (e.b != f.a) = false := by rw [hd2]; simp
    obtain ⟨ad, had, _⟩ := chV_at (F_rdcs.out _ (D5.out _ hS9)) he
    obtain ⟨bd, hbd, _⟩ := chV_at (F_rdds.out _ hS9) hf
    have He := Lib.hid he
    have Hf := Lib.hid hf
    have Hce : Hid (∀ W, S5 W → ∀ j u, e.cells.toList[j]? = some u → W.cell? ((ad.add (k * 5)).add j) = some u) := fun W hW => by
     obtain ⟨ad2, e1, e2⟩ := chV_at (F_rdcs.out _ (D5.out _ hW)) He.out
     rw [had] at e1; injection e1 with e1; subst e1; exact e2
    have Hcf : Hid (∀ W, S5 W → ∀ j u, f.cells.toList[j]? = some u → W.cell? ((bd.add (k * 5)).add j) = some u) := fun W hW => by
     obtain ⟨ad2, e1, e2⟩ := chV_at (F_rdds.out _ hW) Hf.out
     rw [hbd] at e1; injection e1 with e1; subst e1; exact e2
    rw [had, hbd]
    have hkI : (k : Int) < (cs.length : Int) := by omega
    clear he hf hde hdf hd1 hd2 hd3
    go_wp2_with fail
    have hk0 : Hid (k = 0 ∨ ∃ j, k = j + 1) := by cases k with | zero => exact .inl rfl | succ j => exact .inr ⟨j, rfl⟩
    rcases hk0.out with hk9 | ⟨j, hk9⟩
    · skip
      have hk0 := Lib.hid hk9
      clear hk9
      refine region_hold S5 (by kernel_rfl) (by kernel_rfl) (St.drew hS9) ?_
      clear hS9
      iterate 4 (refine hold_value rfl ?_ (fun W hW => ?_) ?_; rotate_left; (focus (go_simp; exact rfl)); simp only [Act.put, List.setIfInBounds_toArray, List.set_cons_zero, List.set_cons_succ])
      (refine hold_load_at rfl 42 _ rfl ((ad.add (k * 5))) rfl e.x.cells.toList _ (fun W hW => ch_dl (Hce.out W hW)) Tryz.underlying42 rfl (by kernel_rfl) ?_; simp only [Act.put, List.setIfInBounds_toArray, List.set_cons_zero, List.set_cons_succ])
      iterate 4 (refine hold_value rfl ?_ (fun W hW => ?_) ?_; rotate_left; (focus (go_simp; exact rfl)); simp only [Act.put, List.setIfInBounds_toArray, List.set_cons_zero, List.set_cons_succ])
      (refine hold_load_at rfl 42 _ rfl ((bd.add (k * 5))) rfl f.x.cells.toList _ (fun W hW => ch_dl (Hcf.out W hW)) Tryz.underlying42 rfl (by kernel_rfl) ?_; simp only [Act.put, List.setIfInBounds_toArray, List.set_cons_zero, List.set_cons_succ])
      (refine hold_call_new rfl 23 _ (fun W => by (go_simp; try rfl)) (.bool true) (fun W hW => (by have h := dlSame_any e.x f.x W ((F_dlcs.out _ (D5.out _ hW)) e (List.mem_of_getElem? He.out)) ((F_dlds.out _ hW) f (List.mem_of_getElem? Hf.out)); rw [Hds.out] at h; exact h)) ?_; simp only [Act.put, List.setIfInBounds_toArray, List.set_cons_zero, List.set_cons_succ])
      iterate 6 (refine hold_value rfl ?_ (fun W hW => ?_) ?_; rotate_left; (focus (go_simp; exact rfl)); simp only [Act.put, List.setIfInBounds_toArray, List.set_cons_zero, List.set_cons_succ])
      (refine hold_value rfl ?_ (fun W hW => ?_) ?_; rotate_left; (focus (have c : W.cell? ⟨(ad.add (k * 5)).block, (ad.add (k * 5)).off + 3, none⟩ = some (.int .i64 e.a) := Hce.out W hW 3 _ rfl; go_simp; exact rfl)); simp only [Act.put, List.setIfInBounds_toArray, List.set_cons_zero, List.set_cons_succ])
      iterate 4 (refine hold_value rfl ?_ (fun W hW => ?_) ?_; rotate_left; (focus (go_simp; exact rfl)); simp only [Act.put, List.setIfInBounds_toArray, List.set_cons_zero, List.set_cons_succ])
      (refine hold_value rfl ?_ (fun W hW => ?_) ?_; rotate_left; (focus (have c : W.cell? ⟨(bd.add (k * 5)).block, (bd.add (k * 5)).off + 4, none⟩ = some (.int .i64 f.b) := Hcf.out W hW 4 _ rfl; go_simp; exact rfl)); simp only [Act.put, List.setIfInBounds_toArray, List.set_cons_zero, List.set_cons_succ])
      (refine hold_value rfl (.bool false) (fun W hW => (by first | (go_simp; done) | (go_simp; simp [hq1]))) ?_; simp only [Act.put, List.setIfInBounds_toArray, List.set_cons_zero, List.set_cons_succ])
      iterate 6 (refine hold_value rfl ?_ (fun W hW => ?_) ?_; rotate_left; (focus (go_simp; exact rfl)); simp only [Act.put, List.setIfInBounds_toArray, List.set_cons_zero, List.set_cons_succ])
      (refine hold_value rfl ?_ (fun W hW => ?_) ?_; rotate_left; (focus (have c : W.cell? ⟨(ad.add (k * 5)).block, (ad.add (k * 5)).off + 4, none⟩ = some (.int .i64 e.b) := Hce.out W hW 4 _ rfl; go_simp; exact rfl)); simp only [Act.put, List.setIfInBounds_toArray, List.set_cons_zero, List.set_cons_succ])
      iterate 4 (refine hold_value rfl ?_ (fun W hW => ?_) ?_; rotate_left; (focus (go_simp; exact rfl)); simp only [Act.put, List.setIfInBounds_toArray, List.set_cons_zero, List.set_cons_succ])
      (refine hold_value rfl ?_ (fun W hW => ?_) ?_; rotate_left; (focus (have c : W.cell? ⟨(bd.add (k * 5)).block, (bd.add (k * 5)).off + 3, none⟩ = some (.int .i64 f.a) := Hcf.out W hW 3 _ rfl; go_simp; exact rfl)); simp only [Act.put, List.setIfInBounds_toArray, List.set_cons_zero, List.set_cons_succ])
      (refine hold_value rfl (.bool false) (fun W hW => (by first | (go_simp; done) | (go_simp; simp [hq2]))) ?_; simp only [Act.put, List.setIfInBounds_toArray, List.set_cons_zero, List.set_cons_succ])
      iterate 3 (refine hold_value rfl ?_ (fun W hW => ?_) ?_; rotate_left; (focus (go_simp; exact rfl)); simp only [Act.put, List.setIfInBounds_toArray, List.set_cons_zero, List.set_cons_succ])
      (refine hold_value rfl (.bool false) (fun W hW => (by first | (go_simp; done) | (go_simp; simp [hk0.out]))) ?_; simp only [Act.put, List.setIfInBounds_toArray, List.set_cons_zero, List.set_cons_succ])
      (refine hold_value rfl ?_ (fun W hW => ?_) ?_; rotate_left; (focus (go_simp; exact rfl)); simp only [Act.put, List.setIfInBounds_toArray, List.set_cons_zero, List.set_cons_succ])
      iterate 13 (refine hold_skip rfl ?_; simp only [Act.put, List.setIfInBounds_toArray, List.set_cons_zero, List.set_cons_succ])
      iterate 2 (refine hold_value rfl ?_ (fun W hW => ?_) ?_; rotate_left; (focus (go_simp; exact rfl)); simp only [Act.put, List.setIfInBounds_toArray, List.set_cons_zero, List.set_cons_succ])
      refine wpHold_nil fun W9 hS9 => ?_
      clear Hcf Hf Hds hq1 hq2
      go_wp2_with fail
      refine region_hold S5 (by kernel_rfl) (by kernel_rfl) (St.drew hS9) ?_
      clear hS9
      iterate 4 (refine hold_value rfl ?_ (fun W hW => ?_) ?_; rotate_left; (focus (go_simp; exact rfl)); simp only [Act.put, List.setIfInBounds_toArray, List.set_cons_zero, List.set_cons_succ])
      (refine hold_load_at rfl 42 _ rfl ((ad.add (k * 5))) rfl e.x.cells.toList _ (fun W hW => ch_dl (Hce.out W hW)) Tryz.underlying42 rfl (by kernel_rfl) ?_; simp only [Act.put, List.setIfInBounds_toArray, List.set_cons_zero, List.set_cons_succ])
      (refine hold_load_row rfl 42 _ rfl (G_5) rfl 42 _ _ (fun W hW => (F_D.out _ (D4.out _ (D5.out _ hW)))) Tryz.underlying42 rfl (by kernel_rfl) ?_; simp only [Act.put, List.setIfInBounds_toArray, List.set_cons_zero, List.set_cons_succ])
      (refine hold_call_new rfl 23 _ (fun W => by (go_simp; try rfl)) (.bool (decide (cmpD e.x.d d.d = 0))) (fun W hW => dlSame_any e.x d W ((F_dlcs.out _ (D5.out _ hW)) e (List.mem_of_getElem? He.out)) (F_okd.out _ (D4.out _ (D5.out _ hW)))) ?_; simp only [Act.put, List.setIfInBounds_toArray, List.set_cons_zero, List.set_cons_succ])
      refine wpHold_nil fun W8 hS8 => ?_
      by_cases hd : cmpD e.x.d d.d = 0
      · have HN : Hid (CnZ (fun p : Dl × Int × Int => p.1) d.d ((diffL a.muts b.muts).take (k + 1)) (c + 1)) := CnZ.yes (diffL_pw HOO.out.1.rise HOO.out.2.rise) HR.out Hde.out hd
        have hcI : IntKind.i64.wrap (c + 1) = c + 1 := IntWalk.i64_in _ (by have := Hcb.out; omega)
        rw [decide_eq_true hd]
        clear hd HR Hde He Hce
        go_wp2_with fail
        exact ⟨⟨k + 1, c + 1, by first | go_num | simp, by first | rfl | simp [hcI], by omega, HN, hS8⟩, by simp only [intOf]; omega⟩
      · have HN : Hid (CnZ (fun p : Dl × Int × Int => p.1) d.d ((diffL a.muts b.muts).take (k + 1)) c) := CnZ.no HR.out Hde.out hd
        rw [decide_eq_false hd]
        clear hd HR Hde He Hce
        go_wp2_with fail
        exact ⟨⟨k + 1, c, by first | go_num | simp, rfl, by omega, HN, hS8⟩, by simp only [intOf]; omega⟩
    · skip
      have hk0 := Lib.hid hk9
      clear hk9
      refine region_hold S5 (by kernel_rfl) (by kernel_rfl) (St.drew hS9) ?_
      clear hS9
      iterate 4 (refine hold_value rfl ?_ (fun W hW => ?_) ?_; rotate_left; (focus (go_simp; exact rfl)); simp only [Act.put, List.setIfInBounds_toArray, List.set_cons_zero, List.set_cons_succ])
      (refine hold_load_at rfl 42 _ rfl ((ad.add (k * 5))) rfl e.x.cells.toList _ (fun W hW => ch_dl (Hce.out W hW)) Tryz.underlying42 rfl (by kernel_rfl) ?_; simp only [Act.put, List.setIfInBounds_toArray, List.set_cons_zero, List.set_cons_succ])
      iterate 4 (refine hold_value rfl ?_ (fun W hW => ?_) ?_; rotate_left; (focus (go_simp; exact rfl)); simp only [Act.put, List.setIfInBounds_toArray, List.set_cons_zero, List.set_cons_succ])
      (refine hold_load_at rfl 42 _ rfl ((bd.add (k * 5))) rfl f.x.cells.toList _ (fun W hW => ch_dl (Hcf.out W hW)) Tryz.underlying42 rfl (by kernel_rfl) ?_; simp only [Act.put, List.setIfInBounds_toArray, List.set_cons_zero, List.set_cons_succ])
      (refine hold_call_new rfl 23 _ (fun W => by (go_simp; try rfl)) (.bool true) (fun W hW => (by have h := dlSame_any e.x f.x W ((F_dlcs.out _ (D5.out _ hW)) e (List.mem_of_getElem? He.out)) ((F_dlds.out _ hW) f (List.mem_of_getElem? Hf.out)); rw [Hds.out] at h; exact h)) ?_; simp only [Act.put, List.setIfInBounds_toArray, List.set_cons_zero, List.set_cons_succ])
      iterate 6 (refine hold_value rfl ?_ (fun W hW => ?_) ?_; rotate_left; (focus (go_simp; exact rfl)); simp only [Act.put, List.setIfInBounds_toArray, List.set_cons_zero, List.set_cons_succ])
      (refine hold_value rfl ?_ (fun W hW => ?_) ?_; rotate_left; (focus (have c : W.cell? ⟨(ad.add (k * 5)).block, (ad.add (k * 5)).off + 3, none⟩ = some (.int .i64 e.a) := Hce.out W hW 3 _ rfl; go_simp; exact rfl)); simp only [Act.put, List.setIfInBounds_toArray, List.set_cons_zero, List.set_cons_succ])
      iterate 4 (refine hold_value rfl ?_ (fun W hW => ?_) ?_; rotate_left; (focus (go_simp; exact rfl)); simp only [Act.put, List.setIfInBounds_toArray, List.set_cons_zero, List.set_cons_succ])
      (refine hold_value rfl ?_ (fun W hW => ?_) ?_; rotate_left; (focus (have c : W.cell? ⟨(bd.add (k * 5)).block, (bd.add (k * 5)).off + 4, none⟩ = some (.int .i64 f.b) := Hcf.out W hW 4 _ rfl; go_simp; exact rfl)); simp only [Act.put, List.setIfInBounds_toArray, List.set_cons_zero, List.set_cons_succ])
      (refine hold_value rfl (.bool false) (fun W hW => (by first | (go_simp; done) | (go_simp; simp [hq1]))) ?_; simp only [Act.put, List.setIfInBounds_toArray, List.set_cons_zero, List.set_cons_succ])
      iterate 6 (refine hold_value rfl ?_ (fun W hW => ?_) ?_; rotate_left; (focus (go_simp; exact rfl)); simp only [Act.put, List.setIfInBounds_toArray, List.set_cons_zero, List.set_cons_succ])
      (refine hold_value rfl ?_ (fun W hW => ?_) ?_; rotate_left; (focus (have c : W.cell? ⟨(ad.add (k * 5)).block, (ad.add (k * 5)).off + 4, none⟩ = some (.int .i64 e.b) := Hce.out W hW 4 _ rfl; go_simp; exact rfl)); simp only [Act.put, List.setIfInBounds_toArray, List.set_cons_zero, List.set_cons_succ])
      iterate 4 (refine hold_value rfl ?_ (fun W hW => ?_) ?_; rotate_left; (focus (go_simp; exact rfl)); simp only [Act.put, List.setIfInBounds_toArray, List.set_cons_zero, List.set_cons_succ])
      (refine hold_value rfl ?_ (fun W hW => ?_) ?_; rotate_left; (focus (have c : W.cell? ⟨(bd.add (k * 5)).block, (bd.add (k * 5)).off + 3, none⟩ = some (.int .i64 f.a) := Hcf.out W hW 3 _ rfl; go_simp; exact rfl)); simp only [Act.put, List.setIfInBounds_toArray, List.set_cons_zero, List.set_cons_succ])
      (refine hold_value rfl (.bool false) (fun W hW => (by first | (go_simp; done) | (go_simp; simp [hq2]))) ?_; simp only [Act.put, List.setIfInBounds_toArray, List.set_cons_zero, List.set_cons_succ])
      iterate 2 (refine hold_value rfl ?_ (fun W hW => ?_) ?_; rotate_left; (focus (go_simp; exact rfl)); simp only [Act.put, List.setIfInBounds_toArray, List.set_cons_zero, List.set_cons_succ])
      obtain ⟨g, hg⟩ : ∃ g, cs[j]? = some g := ⟨_, List.getElem?_eq_getElem (by have := hk0.out; omega)⟩
      have Hg := Lib.hid hg
      have Hcg : Hid (∀ W, S5 W → ∀ i u, g.cells.toList[i]? = some u → W.cell? ((ad.add (j * 5)).add i) = some u) := fun W hW => by
       obtain ⟨ad2, e1, e2⟩ := chV_at (F_rdcs.out _ (D5.out _ hW)) Hg.out
       rw [had] at e1; injection e1 with e1; subst e1; exact e2
      have hlt : cmpD g.x.d e.x.d < 0 := by
       have hdg : (diffL a.muts b.muts)[j]? = some g.data := by rw [← HD1.out, List.getElem?_map, hg]; rfl
       exact pw_get (diffL_pw HOO.out.1.rise HOO.out.2.rise) hdg Hde.out (by have := hk0.out; omega)
      obtain ⟨δ, hδ⟩ : ∃ δ, δ = cmpD g.x.d e.x.d := ⟨_, rfl⟩
      rw [← hδ] at hlt
      have Hδ := Lib.hid hδ
      have hδ0 : ¬ (0 ≤ δ) := by omega
      have hkj : (k : Int) - 1 = (j : Int) := by have := hk0.out; omega
      have hk1 : (0 : Int) < (k : Int) := by have := hk0.out; omega
      have hj0 : (0 : Int) ≤ (j : Int) := by omega
      have hjn : (j : Int) < (cs.length : Int) := by have := hk0.out; omega
      clear hg hδ
      (refine hold_value rfl ?_ (fun W hW => ?_) ?_; rotate_left; (focus (go_simp; exact rfl)); simp only [Act.put, List.setIfInBounds_toArray, List.set_cons_zero, List.set_cons_succ])
      (refine hold_value rfl (.bool true) (fun W hW => (by first | (go_simp; done) | (go_simp; simp [hk1]) | (go_simp; simp; have := hk0.out; omega) | (go_simp; have := hk0.out; omega))) ?_; simp only [Act.put, List.setIfInBounds_toArray, List.set_cons_zero, List.set_cons_succ])
      iterate 3 (refine hold_value rfl ?_ (fun W hW => ?_) ?_; rotate_left; (focus (go_simp; exact rfl)); simp only [Act.put, List.setIfInBounds_toArray, List.set_cons_zero, List.set_cons_succ])
      (refine hold_value rfl (.int .i64 (j : Int)) (fun W hW => (by first | (go_simp; done) | (go_simp; exact IntWalk.i64_in _ (by omega)) | (go_simp; rw [hkj]; exact IntWalk.i64_in _ (by omega)) | (go_simp; exact (IntWalk.i64_in _ (by omega)).trans hkj))) ?_; simp only [Act.put, List.setIfInBounds_toArray, List.set_cons_zero, List.set_cons_succ])
      iterate 2 (refine hold_value rfl ?_ (fun W hW => ?_) ?_; rotate_left; (focus (go_simp; exact rfl)); simp only [Act.put, List.setIfInBounds_toArray, List.set_cons_zero, List.set_cons_succ])
      (refine hold_load_at rfl 42 _ rfl ((ad.add (j * 5))) rfl g.x.cells.toList _ (fun W hW => ch_dl (Hcg.out W hW)) Tryz.underlying42 rfl (by kernel_rfl) ?_; simp only [Act.put, List.setIfInBounds_toArray, List.set_cons_zero, List.set_cons_succ])
      iterate 4 (refine hold_value rfl ?_ (fun W hW => ?_) ?_; rotate_left; (focus (go_simp; exact rfl)); simp only [Act.put, List.setIfInBounds_toArray, List.set_cons_zero, List.set_cons_succ])
      (refine hold_load_at rfl 42 _ rfl ((ad.add (k * 5))) rfl e.x.cells.toList _ (fun W hW => ch_dl (Hce.out W hW)) Tryz.underlying42 rfl (by kernel_rfl) ?_; simp only [Act.put, List.setIfInBounds_toArray, List.set_cons_zero, List.set_cons_succ])
      (refine hold_call_new rfl 25 _ (fun W => by (go_simp; try rfl)) (.int .i64 δ) (fun W hW => (by rw [Hδ.out]; exact dlCmp_any g.x e.x W ((F_dlcs.out _ (D5.out _ hW)) g (List.mem_of_getElem? Hg.out)) ((F_dlcs.out _ (D5.out _ hW)) e (List.mem_of_getElem? He.out)))) ?_; simp only [Act.put, List.setIfInBounds_toArray, List.set_cons_zero, List.set_cons_succ])
      (refine hold_value rfl (.bool false) (fun W hW => (by first | (go_simp; done) | (go_simp; simp [hδ0]) | (go_simp; omega))) ?_; simp only [Act.put, List.setIfInBounds_toArray, List.set_cons_zero, List.set_cons_succ])
      iterate 2 (refine hold_value rfl ?_ (fun W hW => ?_) ?_; rotate_left; (focus (go_simp; exact rfl)); simp only [Act.put, List.setIfInBounds_toArray, List.set_cons_zero, List.set_cons_succ])
      refine wpHold_nil fun W9 hS9 => ?_
      clear Hcf Hf Hds hq1 hq2
      go_wp2_with fail
      refine region_hold S5 (by kernel_rfl) (by kernel_rfl) (St.drew hS9) ?_
      clear hS9
      iterate 4 (refine hold_value rfl ?_ (fun W hW => ?_) ?_; rotate_left; (focus (go_simp; exact rfl)); simp only [Act.put, List.setIfInBounds_toArray, List.set_cons_zero, List.set_cons_succ])
      (refine hold_load_at rfl 42 _ rfl ((ad.add (k * 5))) rfl e.x.cells.toList _ (fun W hW => ch_dl (Hce.out W hW)) Tryz.underlying42 rfl (by kernel_rfl) ?_; simp only [Act.put, List.setIfInBounds_toArray, List.set_cons_zero, List.set_cons_succ])
      (refine hold_load_row rfl 42 _ rfl (G_5) rfl 42 _ _ (fun W hW => (F_D.out _ (D4.out _ (D5.out _ hW)))) Tryz.underlying42 rfl (by kernel_rfl) ?_; simp only [Act.put, List.setIfInBounds_toArray, List.set_cons_zero, List.set_cons_succ])
      (refine hold_call_new rfl 23 _ (fun W => by (go_simp; try rfl)) (.bool (decide (cmpD e.x.d d.d = 0))) (fun W hW => dlSame_any e.x d W ((F_dlcs.out _ (D5.out _ hW)) e (List.mem_of_getElem? He.out)) (F_okd.out _ (D4.out _ (D5.out _ hW)))) ?_; simp only [Act.put, List.setIfInBounds_toArray, List.set_cons_zero, List.set_cons_succ])
      refine wpHold_nil fun W8 hS8 => ?_
      by_cases hd : cmpD e.x.d d.d = 0
      · have HN : Hid (CnZ (fun p : Dl × Int × Int => p.1) d.d ((diffL a.muts b.muts).take (k + 1)) (c + 1)) := CnZ.yes (diffL_pw HOO.out.1.rise HOO.out.2.rise) HR.out Hde.out hd
        have hcI : IntKind.i64.wrap (c + 1) = c + 1 := IntWalk.i64_in _ (by have := Hcb.out; omega)
        rw [decide_eq_true hd]
        clear hd HR Hde He Hce
        go_wp2_with fail
        exact ⟨⟨k + 1, c + 1, by first | go_num | simp, by first | rfl | simp [hcI], by omega, HN, hS8⟩, by simp only [intOf]; omega⟩
      · have HN : Hid (CnZ (fun p : Dl × Int × Int => p.1) d.d ((diffL a.muts b.muts).take (k + 1)) c) := CnZ.no HR.out Hde.out hd
        rw [decide_eq_false hd]
        clear hd HR Hde He Hce
        go_wp2_with fail
        exact ⟨⟨k + 1, c, by first | go_num | simp, rfl, by omega, HN, hS8⟩, by simp only [intOf]; omega⟩
  obtain rfl : k = cs.length := by omega
  have hge : ¬ ((cs.length : Int) < (cs.length : Int)) := by omega
  have HC := Lib.hid (apart_once HOO.out.1.rise HOO.out.2.rise (HR.out.full (by have h := congrArg List.length HD1.out; rw [List.length_map] at h; omega)))
  have hc01 : c = 0 ∨ c = 1 := by have := Hcb.out; omega
  clear HR hkn hk
  have HS5 := Lib.hid hS9
  clear hS9
  have ca := (F_A.out _ (D2.out _ (D3.out _ (D4.out _ (D5.out _ HS5.out))))).cellv (i := 5) (v := .slice a.mA a.mts.length a.mcap) rfl
  have h0S := HS5.out
  go_wp2_with fail
  clear ca
  go_loopw [13, 16] (fun z i wr => ∃ k : Nat, i = .int .i64 (k : Int) ∧ z = .int .i64 (toldZ (a.muts.take k) d.d) ∧ k ≤ a.mts.length ∧ S5 wr) (fun _ i _ => a.mts.length - (intOf i).toNat)
  case atStart => exact ⟨0, rfl, rfl, Nat.zero_le _, h0S⟩
  case round =>
   clear h0S HS5
   obtain ⟨k, rfl, rfl, hk, hS9⟩ := hrel
   by_cases hkn : k < a.mts.length
   · skip
     obtain ⟨x, hx⟩ : ∃ x, a.mts[k]? = some x := ⟨_, List.getElem?_eq_getElem hkn⟩
     have Hx := Lib.hid hx
     have Hxm : Hid (a.muts[k]? = some x.m) := by show _ = _; unfold CpV.muts; rw [List.getElem?_map, hx]; rfl
     obtain ⟨ad, had, _⟩ := mt_at ((F_oka.out _ (D4.out _ (D5.out _ hS9)))).mrd hx
     have Hc : Hid (∀ W, S5 W → ∀ i u, x.cells[i]? = some u → W.cell? ((ad.add (k * 8)).add i) = some u) := fun W hW => by
      obtain ⟨ad', e1, e2⟩ := mt_at ((F_oka.out _ (D4.out _ (D5.out _ hW)))).mrd Hx.out
      rw [had] at e1; injection e1 with e1; subst e1; exact e2
     have C5 : Hid (∀ W, S5 W → W.cell? ⟨G_1, 5, none⟩ = some (.slice (some ad) a.mts.length a.mcap)) := fun W hW => by rw [← had]; exact cp_mut (F_A.out _ (D2.out _ (D3.out _ (D4.out _ (D5.out _ hW)))))
     have hka : (k : Int) < (a.mts.length : Int) := by omega
     have cc := C5.out _ hS9
     clear hx had
     go_wp2_with fail
     clear cc
     refine region_hold S5 (by kernel_rfl) (by kernel_rfl) (St.drew hS9) ?_
     clear hS9
     (refine hold_value rfl ?_ (fun W hW => ?_) ?_; rotate_left; (focus (go_simp; exact rfl)); simp only [Act.put, List.setIfInBounds_toArray, List.set_cons_zero, List.set_cons_succ])
     (refine hold_value rfl ?_ (fun W hW => ?_) ?_; rotate_left; (focus (have c := C5.out W hW; go_simp; exact rfl)); simp only [Act.put, List.setIfInBounds_toArray, List.set_cons_zero, List.set_cons_succ])
     iterate 3 (refine hold_value rfl ?_ (fun W hW => ?_) ?_; rotate_left; (focus (go_simp; exact rfl)); simp only [Act.put, List.setIfInBounds_toArray, List.set_cons_zero, List.set_cons_succ])
     (refine hold_load_at rfl 42 _ rfl (_) rfl x.dl.cells.toList _ (fun W hW => mt_dlat (Hc.out W hW)) Tryz.underlying42 rfl (by kernel_rfl) ?_; simp only [Act.put, List.setIfInBounds_toArray, List.set_cons_zero, List.set_cons_succ])
     (refine hold_load_row rfl 42 _ rfl (G_5) rfl 42 _ _ (fun W hW => (F_D.out _ (D4.out _ (D5.out _ hW)))) Tryz.underlying42 rfl (by kernel_rfl) ?_; simp only [Act.put, List.setIfInBounds_toArray, List.set_cons_zero, List.set_cons_succ])
     (refine hold_call_new rfl 23 _ (fun W => by (go_simp; try rfl)) (.bool (decide (cmpD x.m.d d.d = 0))) (fun W hW => dlSame_any x.dl d W (((F_oka.out _ (D4.out _ (D5.out _ hW)))).mok x (List.mem_of_getElem? Hx.out)).dl (F_okd.out _ (D4.out _ (D5.out _ hW)))) ?_; simp only [Act.put, List.setIfInBounds_toArray, List.set_cons_zero, List.set_cons_succ])
     refine wpHold_nil fun W9 hS9 => ?_
     have Hts := Lib.hid (told_step HOO.out.1.rise Hxm.out d.d)
     by_cases hd : cmpD x.m.d d.d = 0
     · have cc := C5.out _ hS9
       have c3 : W9.cell? ⟨(ad.add (k * 8)).block, (ad.add (k * 8)).off + 3, none⟩ = some (.int .i64 x.m.verdict) := Hc.out W9 hS9 3 _ rfl
       have HN : Hid (toldZ (a.muts.take (k + 1)) d.d = x.m.verdict) := by show _ = _; rw [Hts.out, if_pos hd]
       rw [decide_eq_true hd]
       clear hd Hxm Hx Hts
       go_wp2_with fail
       exact ⟨⟨k + 1, by first | go_num | simp, by rw [HN.out], by omega, hS9⟩, by simp only [intOf]; omega⟩
     · have HN : Hid (toldZ (a.muts.take (k + 1)) d.d = toldZ (a.muts.take k) d.d) := by show _ = _; rw [Hts.out, if_neg hd]
       rw [decide_eq_false hd]
       clear hd Hxm Hx Hc C5 Hts
       go_wp2_with fail
       exact ⟨⟨k + 1, by first | go_num | simp, by rw [HN.out], by omega, hS9⟩, by simp only [intOf]; omega⟩
   obtain rfl : k = a.mts.length := by omega
   have hge1 : ¬ ((a.mts.length : Int) < (a.mts.length : Int)) := by omega
   rw [List.take_of_length_le (show a.muts.length ≤ a.mts.length by unfold CpV.muts; rw [List.length_map]; exact Nat.le_refl _)]
   clear hkn hk
   have HS5 := Lib.hid hS9
   clear hS9
   have ca := (F_A.out _ (D2.out _ (D3.out _ (D4.out _ (D5.out _ HS5.out))))).cellv (i := 5) (v := .slice a.mA a.mts.length a.mcap) rfl
   have cb := (F_B.out _ (D3.out _ (D4.out _ (D5.out _ HS5.out)))).cellv (i := 5) (v := .slice b.mA b.mts.length b.mcap) rfl
   obtain ⟨ta, hta⟩ : ∃ ta, ta = toldZ a.muts d.d := ⟨_, rfl⟩
   rw [← hta]
   rw [← hta] at HC
   clear hta
   have h0S := HS5.out
   go_wp2_with fail
   clear ca cb
   go_loopw [14, 17] (fun z i wr => ∃ k : Nat, i = .int .i64 (k : Int) ∧ z = .int .i64 (toldZ (b.muts.take k) d.d) ∧ k ≤ b.mts.length ∧ S5 wr) (fun _ i _ => b.mts.length - (intOf i).toNat)
   case atStart => exact ⟨0, rfl, rfl, Nat.zero_le _, h0S⟩
   case round =>
    clear h0S HS5
    obtain ⟨k, rfl, rfl, hk, hS9⟩ := hrel
    by_cases hkn : k < b.mts.length
    · skip
      obtain ⟨x, hx⟩ : ∃ x, b.mts[k]? = some x := ⟨_, List.getElem?_eq_getElem hkn⟩
      have Hx := Lib.hid hx
      have Hxm : Hid (b.muts[k]? = some x.m) := by show _ = _; unfold CpV.muts; rw [List.getElem?_map, hx]; rfl
      obtain ⟨ad, had, _⟩ := mt_at ((F_okb.out _ (D4.out _ (D5.out _ hS9)))).mrd hx
      have Hc : Hid (∀ W, S5 W → ∀ i u, x.cells[i]? = some u → W.cell? ((ad.add (k * 8)).add i) = some u) := fun W hW => by
       obtain ⟨ad', e1, e2⟩ := mt_at ((F_okb.out _ (D4.out _ (D5.out _ hW)))).mrd Hx.out
       rw [had] at e1; injection e1 with e1; subst e1; exact e2
      have C5 : Hid (∀ W, S5 W → W.cell? ⟨G_3, 5, none⟩ = some (.slice (some ad) b.mts.length b.mcap)) := fun W hW => by rw [← had]; exact cp_mut (F_B.out _ (D3.out _ (D4.out _ (D5.out _ hW))))
      have hka : (k : Int) < (b.mts.length : Int) := by omega
      have cc := C5.out _ hS9
      clear hx had
      go_wp2_with fail
      clear cc
      refine region_hold S5 (by kernel_rfl) (by kernel_rfl) (St.drew hS9) ?_
      clear hS9
      (refine hold_value rfl ?_ (fun W hW => ?_) ?_; rotate_left; (focus (go_simp; exact rfl)); simp only [Act.put, List.setIfInBounds_toArray, List.set_cons_zero, List.set_cons_succ])
      (refine hold_value rfl ?_ (fun W hW => ?_) ?_; rotate_left; (focus (have c := C5.out W hW; go_simp; exact rfl)); simp only [Act.put, List.setIfInBounds_toArray, List.set_cons_zero, List.set_cons_succ])
      iterate 3 (refine hold_value rfl ?_ (fun W hW => ?_) ?_; rotate_left; (focus (go_simp; exact rfl)); simp only [Act.put, List.setIfInBounds_toArray, List.set_cons_zero, List.set_cons_succ])
      (refine hold_load_at rfl 42 _ rfl (_) rfl x.dl.cells.toList _ (fun W hW => mt_dlat (Hc.out W hW)) Tryz.underlying42 rfl (by kernel_rfl) ?_; simp only [Act.put, List.setIfInBounds_toArray, List.set_cons_zero, List.set_cons_succ])
      (refine hold_load_row rfl 42 _ rfl (G_5) rfl 42 _ _ (fun W hW => (F_D.out _ (D4.out _ (D5.out _ hW)))) Tryz.underlying42 rfl (by kernel_rfl) ?_; simp only [Act.put, List.setIfInBounds_toArray, List.set_cons_zero, List.set_cons_succ])
      (refine hold_call_new rfl 23 _ (fun W => by (go_simp; try rfl)) (.bool (decide (cmpD x.m.d d.d = 0))) (fun W hW => dlSame_any x.dl d W (((F_okb.out _ (D4.out _ (D5.out _ hW)))).mok x (List.mem_of_getElem? Hx.out)).dl (F_okd.out _ (D4.out _ (D5.out _ hW)))) ?_; simp only [Act.put, List.setIfInBounds_toArray, List.set_cons_zero, List.set_cons_succ])
      refine wpHold_nil fun W9 hS9 => ?_
      have Hts := Lib.hid (told_step HOO.out.2.rise Hxm.out d.d)
      by_cases hd : cmpD x.m.d d.d = 0
      · have cc := C5.out _ hS9
        have c3 : W9.cell? ⟨(ad.add (k * 8)).block, (ad.add (k * 8)).off + 3, none⟩ = some (.int .i64 x.m.verdict) := Hc.out W9 hS9 3 _ rfl
        have HN : Hid (toldZ (b.muts.take (k + 1)) d.d = x.m.verdict) := by show _ = _; rw [Hts.out, if_pos hd]
        rw [decide_eq_true hd]
        clear hd Hxm Hx Hts
        go_wp2_with fail
        exact ⟨⟨k + 1, by first | go_num | simp, by rw [HN.out], by omega, hS9⟩, by simp only [intOf]; omega⟩
      · have HN : Hid (toldZ (b.muts.take (k + 1)) d.d = toldZ (b.muts.take k) d.d) := by show _ = _; rw [Hts.out, if_neg hd]
        rw [decide_eq_false hd]
        clear hd Hxm Hx Hc C5 Hts
        go_wp2_with fail
        exact ⟨⟨k + 1, by first | go_num | simp, by rw [HN.out], by omega, hS9⟩, by simp only [intOf]; omega⟩
    obtain rfl : k = b.mts.length := by omega
    have hge2 : ¬ ((b.mts.length : Int) < (b.mts.length : Int)) := by omega
    rw [List.take_of_length_le (show b.muts.length ≤ b.mts.length by unfold CpV.muts; rw [List.length_map]; exact Nat.le_refl _)]
    clear hkn hk
    have HS5 := Lib.hid hS9
    clear hS9
    obtain ⟨tb, htb⟩ : ∃ tb, tb = toldZ b.muts d.d := ⟨_, rfl⟩
    rw [← htb]
    rw [← htb] at HC
    clear htb
    have cb := (F_B.out _ (D3.out _ (D4.out _ (D5.out _ HS5.out)))).cellv (i := 5) (v := .slice b.mA b.mts.length b.mcap) rfl
    go_wp2_with (refine wpList_load_row rfl 31 _ rfl G_1 rfl 31 a.cells (0, 0) _ (F_A.out _ (D2.out _ (D3.out _ (D4.out _ (D5.out _ HS5.out))))) Tryz.underlying31 rfl (by kernel_rfl) ?_)
    refine (diff_any a a wr (F_oka.out _ (D4.out _ (D5.out _ HS5.out))) (F_oka.out _ (D4.out _ (D5.out _ HS5.out)))).mono ?_
    rintro e w_11 ⟨A3, p3, es, rfl, -, -, -, -, hdat, bb, -⟩
    have hE0 : diffE a a = 0 := diffE_of HOO.out.1 HOO.out.1 (by unfold sameP; simp)
    rw [if_pos hE0, diffL_self HOO.out.1.rise] at hdat
    obtain rfl : es = [] := by simpa using hdat
    rw [hE0]
    clear hdat hE0
    have hprev := st5.go HS5.out (bb)
    replace HS5 := Lib.hid hprev
    clear hprev bb
    clear cb
    have hC := HC.out
    clear HC
    rcases hc01 with rfl | rfl
    · have hq : (ta != tb) = false := by
       have h : ta = tb := Classical.byContradiction fun h => absurd (hC.1.2 h) (by decide)
       simp [h]
      clear hC
      go_wp2_with fail
      go_ret
      exact ⟨rfl, (F_low.out _ (D1.out _ (D2.out _ (D3.out _ (D4.out _ (D5.out _ HS5.out))))))⟩
    · have hq : (ta != tb) = true := by
       have h := hC.1.1 rfl
       simpa using h
      clear hC
      go_wp2_with fail
      go_ret
      exact ⟨rfl, (F_low.out _ (D1.out _ (D2.out _ (D3.out _ (D4.out _ (D5.out _ HS5.out))))))⟩
end Go.Proofs.YtcgglolckkeeiaaGreat
