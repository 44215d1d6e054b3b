/- Lemmas for JnAll. -/
import Derived.Test.YtcgglolckkeeiaaGreatZj31
import Derived.Test.YtcgglolckkeeiaaGreatZj32
import Derived.Test.YtcgglolckkeeiaaGreatZj33
import Derived.Test.YtcgglolckkeeiaaGreatZj30
import Derived.Test.YtcgglolckkeeiaaGreatZj27
namespace Go.Proofs.YtcgglolckkeeiaaGreat
set_option linter.unusedVariables false
open Go.RowKit Go.Deep
instance St.rowB {t : TypeId} {A : Option Addr} : St (fun W => RowB W t A) := ⟨fun h b => h.go b⟩
instance St.cpt {c : CpV} : St (fun W => CpT W c) := ⟨fun h b => ⟨h.va.go b, h.ba.go b, h.tA.go b, fun x hx => (h.ts x hx).go b, h.mA.go b, fun x hx => (h.ms x hx).go b⟩⟩
set_option maxRecDepth 100000 in
set_option maxHeartbeats 16000000 in
theorem works25_any (w : World) : Calls Tryz.prog 15 #[] w fun e w' => e = .returned (.bool true) ∧ Below w.heap.size w w' := by
 go_enter Tryz.func15, Tryz.ntmps15
 obtain ⟨S0, hSd⟩ : ∃ S : World → Prop, S = (fun W => Below w.heap.size w W) := ⟨_, rfl⟩
 have st0 : St S0 := by rw [hSd]; infer_instance
 have F_low : Hid (∀ W, S0 W → Below w.heap.size w W) := by show ∀ W, _; rw [hSd]; exact fun W h => h
 have HS0 : Hid (S0 w) := by show S0 w; rw [hSd]; exact Below.refl _ _
 clear hSd
 go_wp2_with (refine at_slice _ _ _ rfl ?_)
 refine Stop.to ?_
 refine wpList_slice_gen rfl 22 1 _ rfl 3 (ints [0]).toArray (bs_run Tryz.underlying22 info_iE (by decide) (by decide) (by kernel_rfl)) ?_
 intro G_1 w_2 hG rG bG
 have hprev := st0.go HS0.out (bG.mono hG)
 obtain ⟨S1, hSd⟩ : ∃ S : World → Prop, S = (fun W => S0 W ∧ Row W G_1 3 (ints [0]).toArray) := ⟨_, rfl⟩
 have st1 : St S1 := by rw [hSd]; infer_instance
 have D1 : Hid (∀ W, S1 W → S0 W) := by show ∀ W, _; rw [hSd]; exact fun W h => h.1
 have F_v1 : Hid (∀ W, S1 W → Row W G_1 3 (ints [0]).toArray) := by show ∀ W, _; rw [hSd]; exact fun W h => h.2
 have HS1 : Hid (S1 w_2) := by show S1 w_2; rw [hSd]; exact ⟨hprev, rG⟩
 clear hSd
 clear hprev HS0 hG rG bG
 go_wp2_with (refine at_slice _ _ _ rfl ?_)
 refine Stop.to ?_
 refine wpList_slice_gen rfl 23 3 _ rfl 74 (bodyE.flatMap Nd.cells).toArray (bs_run Tryz.underlying23 info_nE (by decide) (by decide) (by kernel_rfl)) ?_
 intro G_3 w_4 hG rG bG
 have hprev := st1.go HS1.out (bG.mono hG)
 obtain ⟨S2, hSd⟩ : ∃ S : World → Prop, S = (fun W => S1 W ∧ Row W G_3 74 (bodyE.flatMap Nd.cells).toArray) := ⟨_, rfl⟩
 have st2 : St S2 := by rw [hSd]; infer_instance
 have D2 : Hid (∀ W, S2 W → S1 W) := by show ∀ W, _; rw [hSd]; exact fun W h => h.1
 have F_n1 : Hid (∀ W, S2 W → Row W G_3 74 (bodyE.flatMap Nd.cells).toArray) := by show ∀ W, _; rw [hSd]; exact fun W h => h.2
 have HS2 : Hid (S2 w_4) := by show S2 w_4; rw [hSd]; exact ⟨hprev, rG⟩
 clear hSd
 clear hprev HS1 hG rG bG
 go_wp2_with (refine at_alloc _ rfl ?_)
 refine Stop.to ?_
 refine wpList_alloc_gen rfl 25 rfl _ _ zero_pgE rfl ?_
 intro G_5 w_6 hG rG bG
 go_wp2_with (refine at_store _ _ _ rfl ?_)
 refine Stop.to ?_
 refine wpList_store_gen rfl 25 _ _ rfl G_5 #[.int .i64 1, .slice (some ⟨G_1, 0, none⟩) 1 1, .slice (some ⟨G_3, 0, none⟩) 3 3] rfl rfl 25 _ rG (by kernel_rfl) rfl (by simp [Value.oneCell']) ?_
 intro w_7 rH oH
 have bH : Below (w_4).heap.size w_4 w_7 := (bG.mono hG).trans (oH.below hG)
 have hprev := st2.go HS2.out (bH)
 obtain ⟨S3, hSd⟩ : ∃ S : World → Prop, S = (fun W => S2 W ∧ Row W G_5 25 #[.int .i64 1, .slice (some ⟨G_1, 0, none⟩) 1 1, .slice (some ⟨G_3, 0, none⟩) 3 3]) := ⟨_, rfl⟩
 have st3 : St S3 := by rw [hSd]; infer_instance
 have D3 : Hid (∀ W, S3 W → S2 W) := by show ∀ W, _; rw [hSd]; exact fun W h => h.1
 have F_P : Hid (∀ W, S3 W → Row W G_5 25 #[.int .i64 1, .slice (some ⟨G_1, 0, none⟩) 1 1, .slice (some ⟨G_3, 0, none⟩) 3 3]) := by show ∀ W, _; rw [hSd]; exact fun W h => h.2
 have HS3 : Hid (S3 w_7) := by show S3 w_7; rw [hSd]; exact ⟨hprev, rH⟩
 clear hSd
 clear hprev HS2 hG rG bG rH oH bH
 go_wp2_with (refine at_slice _ _ _ rfl ?_)
 refine Stop.to ?_
 refine wpList_slice_gen rfl 22 1 _ rfl 3 (ints [0]).toArray (bs_run Tryz.underlying22 info_iE (by decide) (by decide) (by kernel_rfl)) ?_
 intro G_8 w_9 hG rG bG
 have hprev := st3.go HS3.out (bG.mono hG)
 obtain ⟨S4, hSd⟩ : ∃ S : World → Prop, S = (fun W => S3 W ∧ Row W G_8 3 (ints [0]).toArray) := ⟨_, rfl⟩
 have st4 : St S4 := by rw [hSd]; infer_instance
 have D4 : Hid (∀ W, S4 W → S3 W) := by show ∀ W, _; rw [hSd]; exact fun W h => h.1
 have F_d1 : Hid (∀ W, S4 W → Row W G_8 3 (ints [0]).toArray) := by show ∀ W, _; rw [hSd]; exact fun W h => h.2
 have HS4 : Hid (S4 w_9) := by show S4 w_9; rw [hSd]; exact ⟨hprev, rG⟩
 clear hSd
 clear hprev HS3 hG rG bG
 go_wp2_with (refine at_alloc _ rfl ?_)
 refine Stop.to ?_
 refine wpList_alloc_gen rfl 47 rfl _ _ (zero_mt _) rfl ?_
 intro G_10 w_11 hG rG bG
 go_wp2_with (refine at_store _ _ _ rfl ?_)
 refine Stop.to ?_
 refine wpList_store_gen rfl 47 _ _ rfl G_10 #[.slice (some ⟨G_8, 0, none⟩) 1 1, .int .i64 5, .int .i64 0, .int .i64 0, .int .i64 (-1), .int .i64 0, .int .i64 0, .string ByteArray.empty] rfl rfl 47 _ rG (by kernel_rfl) rfl (by simp [Value.oneCell']) ?_
 intro w_12 rH oH
 have bH : Below (w_9).heap.size w_9 w_12 := (bG.mono hG).trans (oH.below hG)
 have hprev := st4.go HS4.out (bH)
 obtain ⟨S5, hSd⟩ : ∃ S : World → Prop, S = (fun W => S4 W ∧ Row W G_10 47 #[.slice (some ⟨G_8, 0, none⟩) 1 1, .int .i64 5, .int .i64 0, .int .i64 0, .int .i64 (-1), .int .i64 0, .int .i64 0, .string ByteArray.empty]) := ⟨_, rfl⟩
 have st5 : St S5 := by rw [hSd]; infer_instance
 have D5 : Hid (∀ W, S5 W → S4 W) := by show ∀ W, _; rw [hSd]; exact fun W h => h.1
 have F_M : Hid (∀ W, S5 W → Row W G_10 47 #[.slice (some ⟨G_8, 0, none⟩) 1 1, .int .i64 5, .int .i64 0, .int .i64 0, .int .i64 (-1), .int .i64 0, .int .i64 0, .string ByteArray.empty]) := by show ∀ W, _; rw [hSd]; exact fun W h => h.2
 have HS5 : Hid (S5 w_12) := by show S5 w_12; rw [hSd]; exact ⟨hprev, rH⟩
 clear hSd
 clear hprev HS4 hG rG bG rH oH bH
 go_wp2_with (first | (refine wpList_load_row rfl 25 _ rfl G_5 rfl 25 #[.int .i64 1, .slice (some ⟨G_1, 0, none⟩) 1 1, .slice (some ⟨G_3, 0, none⟩) 3 3] (0, 0) _ (F_P.out _ (D4.out _ (D5.out _ HS5.out))) Tryz.underlying25 rfl (by kernel_rfl) ?_) | (refine at_slice _ _ _ rfl ?_))
 refine Stop.to ?_
 refine wpList_slice_gen rfl 22 1 _ rfl 3 (ints [1]).toArray (bs_run Tryz.underlying22 info_iE (by decide) (by decide) (by kernel_rfl)) ?_
 intro G_13 w_14 hG rG bG
 have hprev := st5.go HS5.out (bG.mono hG)
 obtain ⟨S6, hSd⟩ : ∃ S : World → Prop, S = (fun W => S5 W ∧ Row W G_13 3 (ints [1]).toArray) := ⟨_, rfl⟩
 have st6 : St S6 := by rw [hSd]; infer_instance
 have D6 : Hid (∀ W, S6 W → S5 W) := by show ∀ W, _; rw [hSd]; exact fun W h => h.1
 have F_t1 : Hid (∀ W, S6 W → Row W G_13 3 (ints [1]).toArray) := by show ∀ W, _; rw [hSd]; exact fun W h => h.2
 have HS6 : Hid (S6 w_14) := by show S6 w_14; rw [hSd]; exact ⟨hprev, rG⟩
 clear hSd
 clear hprev HS5 hG rG bG
 go_wp2_with (refine at_slice _ _ _ rfl ?_)
 refine Stop.to ?_
 refine wpList_slice_gen rfl 26 1 _ rfl 22 (tstC [tvE G_13]).toArray (bs_run Tryz.underlying26 info_tE (by decide) (by decide) (by kernel_rfl)) ?_
 intro G_15 w_16 hG rG bG
 have hprev := st6.go HS6.out (bG.mono hG)
 obtain ⟨S7, hSd⟩ : ∃ S : World → Prop, S = (fun W => S6 W ∧ Row W G_15 22 (tstC [tvE G_13]).toArray) := ⟨_, rfl⟩
 have st7 : St S7 := by rw [hSd]; infer_instance
 have D7 : Hid (∀ W, S7 W → S6 W) := by show ∀ W, _; rw [hSd]; exact fun W h => h.1
 have F_T1 : Hid (∀ W, S7 W → Row W G_15 22 (tstC [tvE G_13]).toArray) := by show ∀ W, _; rw [hSd]; exact fun W h => h.2
 have HS7 : Hid (S7 w_16) := by show S7 w_16; rw [hSd]; exact ⟨hprev, rG⟩
 clear hSd
 clear hprev HS6 hG rG bG
 go_wp2_with (first | (refine wpList_load_row rfl 47 _ rfl G_10 rfl 47 #[.slice (some ⟨G_8, 0, none⟩) 1 1, .int .i64 5, .int .i64 0, .int .i64 0, .int .i64 (-1), .int .i64 0, .int .i64 0, .string ByteArray.empty] (0, 0) _ (F_M.out _ (D6.out _ (D7.out _ HS7.out))) Tryz.underlying47 rfl (by kernel_rfl) ?_) | (refine at_slice _ _ _ rfl ?_))
 refine Stop.to ?_
 refine wpList_slice_gen rfl 27 1 _ rfl 47 (mtsC [mvE G_8]).toArray (bs_run Tryz.underlying27 info_mtz (by decide) (by decide) (by kernel_rfl)) ?_
 intro G_17 w_18 hG rG bG
 have hprev := st7.go HS7.out (bG.mono hG)
 obtain ⟨S8, hSd⟩ : ∃ S : World → Prop, S = (fun W => S7 W ∧ Row W G_17 47 (mtsC [mvE G_8]).toArray) := ⟨_, rfl⟩
 have st8 : St S8 := by rw [hSd]; infer_instance
 have D8 : Hid (∀ W, S8 W → S7 W) := by show ∀ W, _; rw [hSd]; exact fun W h => h.1
 have F_M1 : Hid (∀ W, S8 W → Row W G_17 47 (mtsC [mvE G_8]).toArray) := by show ∀ W, _; rw [hSd]; exact fun W h => h.2
 have HS8 : Hid (S8 w_18) := by show S8 w_18; rw [hSd]; exact ⟨hprev, rG⟩
 clear hSd
 clear hprev HS7 hG rG bG
 go_wp2_with (refine at_alloc _ rfl ?_)
 refine Stop.to ?_
 refine wpList_alloc_gen rfl 31 rfl _ _ (zero_cp _) rfl ?_
 intro G_19 w_20 hG rG bG
 go_wp2_with (refine at_store _ _ _ rfl ?_)
 refine Stop.to ?_
 refine wpList_store_gen rfl 31 _ _ rfl G_19 #[.int .i64 1, .slice (some ⟨G_1, 0, none⟩) 1 1, .slice (some ⟨G_3, 0, none⟩) 3 3, .slice (some ⟨G_15, 0, none⟩) 1 1, .int .i64 9, .slice (some ⟨G_17, 0, none⟩) 1 1, .int .i64 1, .int .i64 0, .int .i64 0] rfl rfl 31 _ rG (by kernel_rfl) rfl (by simp [Value.oneCell']) ?_
 intro w_21 rH oH
 have bH : Below (w_18).heap.size w_18 w_21 := (bG.mono hG).trans (oH.below hG)
 have hprev := st8.go HS8.out (bH)
 obtain ⟨S9, hSd⟩ : ∃ S : World → Prop, S = (fun W => S8 W ∧ Row W G_19 31 #[.int .i64 1, .slice (some ⟨G_1, 0, none⟩) 1 1, .slice (some ⟨G_3, 0, none⟩) 3 3, .slice (some ⟨G_15, 0, none⟩) 1 1, .int .i64 9, .slice (some ⟨G_17, 0, none⟩) 1 1, .int .i64 1, .int .i64 0, .int .i64 0]) := ⟨_, rfl⟩
 have st9 : St S9 := by rw [hSd]; infer_instance
 have D9 : Hid (∀ W, S9 W → S8 W) := by show ∀ W, _; rw [hSd]; exact fun W h => h.1
 have F_C : Hid (∀ W, S9 W → Row W G_19 31 #[.int .i64 1, .slice (some ⟨G_1, 0, none⟩) 1 1, .slice (some ⟨G_3, 0, none⟩) 3 3, .slice (some ⟨G_15, 0, none⟩) 1 1, .int .i64 9, .slice (some ⟨G_17, 0, none⟩) 1 1, .int .i64 1, .int .i64 0, .int .i64 0]) := by show ∀ W, _; rw [hSd]; exact fun W h => h.2
 have HS9 : Hid (S9 w_21) := by show S9 w_21; rw [hSd]; exact ⟨hprev, rH⟩
 clear hSd
 clear hprev HS8 hG rG bG rH oH bH
 have F_okc : Hid (∀ W, S9 W → CpOk W (cE G_1 G_3 G_8 G_13 G_15 G_17)) := by show ∀ W, _; exact fun W hW => cE_ok (F_v1.out _ (D2.out _ (D3.out _ (D4.out _ (D5.out _ (D6.out _ (D7.out _ (D8.out _ (D9.out _ hW))))))))) (F_n1.out _ (D3.out _ (D4.out _ (D5.out _ (D6.out _ (D7.out _ (D8.out _ (D9.out _ hW)))))))) (F_d1.out _ (D5.out _ (D6.out _ (D7.out _ (D8.out _ (D9.out _ hW)))))) (F_t1.out _ (D7.out _ (D8.out _ (D9.out _ hW)))) (F_T1.out _ (D8.out _ (D9.out _ hW))) (F_M1.out _ (D9.out _ hW))
 go_wp2_with (first | (refine wpList_load_row rfl 25 _ rfl G_5 rfl 25 #[.int .i64 1, .slice (some ⟨G_1, 0, none⟩) 1 1, .slice (some ⟨G_3, 0, none⟩) 3 3] (0, 0) _ (F_P.out _ (D4.out _ (D5.out _ (D6.out _ (D7.out _ (D8.out _ (D9.out _ HS9.out))))))) Tryz.underlying25 rfl (by kernel_rfl) ?_) | (refine at_slice _ _ _ rfl ?_))
 refine Stop.to ?_
 refine wpList_slice_gen rfl 22 1 _ rfl 3 (ints [1]).toArray (bs_run Tryz.underlying22 info_iE (by decide) (by decide) (by kernel_rfl)) ?_
 intro G_22 w_23 hG rG bG
 have hprev := st9.go HS9.out (bG.mono hG)
 obtain ⟨S10, hSd⟩ : ∃ S : World → Prop, S = (fun W => S9 W ∧ Row W G_22 3 (ints [1]).toArray) := ⟨_, rfl⟩
 have st10 : St S10 := by rw [hSd]; infer_instance
 have D10 : Hid (∀ W, S10 W → S9 W) := by show ∀ W, _; rw [hSd]; exact fun W h => h.1
 have F_t2 : Hid (∀ W, S10 W → Row W G_22 3 (ints [1]).toArray) := by show ∀ W, _; rw [hSd]; exact fun W h => h.2
 have HS10 : Hid (S10 w_23) := by show S10 w_23; rw [hSd]; exact ⟨hprev, rG⟩
 clear hSd
 clear hprev HS9 hG rG bG
 go_wp2_with (refine at_slice _ _ _ rfl ?_)
 refine Stop.to ?_
 refine wpList_slice_gen rfl 26 1 _ rfl 22 (tstC [tvE G_22]).toArray (bs_run Tryz.underlying26 info_tE (by decide) (by decide) (by kernel_rfl)) ?_
 intro G_24 w_25 hG rG bG
 have hprev := st10.go HS10.out (bG.mono hG)
 obtain ⟨S11, hSd⟩ : ∃ S : World → Prop, S = (fun W => S10 W ∧ Row W G_24 22 (tstC [tvE G_22]).toArray) := ⟨_, rfl⟩
 have st11 : St S11 := by rw [hSd]; infer_instance
 have D11 : Hid (∀ W, S11 W → S10 W) := by show ∀ W, _; rw [hSd]; exact fun W h => h.1
 have F_T2 : Hid (∀ W, S11 W → Row W G_24 22 (tstC [tvE G_22]).toArray) := by show ∀ W, _; rw [hSd]; exact fun W h => h.2
 have HS11 : Hid (S11 w_25) := by show S11 w_25; rw [hSd]; exact ⟨hprev, rG⟩
 clear hSd
 clear hprev HS10 hG rG bG
 go_wp2_with (refine at_alloc _ rfl ?_)
 refine Stop.to ?_
 refine wpList_alloc_gen rfl 31 rfl _ _ (zero_cp _) rfl ?_
 intro G_26 w_27 hG rG bG
 go_wp2_with (refine at_store _ _ _ rfl ?_)
 refine Stop.to ?_
 refine wpList_store_gen rfl 31 _ _ rfl G_26 #[.int .i64 1, .slice (some ⟨G_1, 0, none⟩) 1 1, .slice (some ⟨G_3, 0, none⟩) 3 3, .slice (some ⟨G_24, 0, none⟩) 1 1, .int .i64 9, .slice none 0 0, .int .i64 0, .int .i64 0, .int .i64 0] rfl rfl 31 _ rG (by kernel_rfl) rfl (by simp [Value.oneCell']) ?_
 intro w_28 rH oH
 have bH : Below (w_25).heap.size w_25 w_28 := (bG.mono hG).trans (oH.below hG)
 have hGD : w.heap.size ≤ G_26 := Nat.le_trans (F_low.out _ (D1.out _ (D2.out _ (D3.out _ (D4.out _ (D5.out _ (D6.out _ (D7.out _ (D8.out _ (D9.out _ (D10.out _ (D11.out _ HS11.out)))))))))))).size hG
 have hprev := st11.go HS11.out (bH)
 obtain ⟨S12, hSd⟩ : ∃ S : World → Prop, S = (fun W => S11 W ∧ Row W G_26 31 #[.int .i64 1, .slice (some ⟨G_1, 0, none⟩) 1 1, .slice (some ⟨G_3, 0, none⟩) 3 3, .slice (some ⟨G_24, 0, none⟩) 1 1, .int .i64 9, .slice none 0 0, .int .i64 0, .int .i64 0, .int .i64 0]) := ⟨_, rfl⟩
 have st12 : St S12 := by rw [hSd]; infer_instance
 have D12 : Hid (∀ W, S12 W → S11 W) := by show ∀ W, _; rw [hSd]; exact fun W h => h.1
 have F_D : Hid (∀ W, S12 W → Row W G_26 31 #[.int .i64 1, .slice (some ⟨G_1, 0, none⟩) 1 1, .slice (some ⟨G_3, 0, none⟩) 3 3, .slice (some ⟨G_24, 0, none⟩) 1 1, .int .i64 9, .slice none 0 0, .int .i64 0, .int .i64 0, .int .i64 0]) := by show ∀ W, _; rw [hSd]; exact fun W h => h.2
 have HS12 : Hid (S12 w_28) := by show S12 w_28; rw [hSd]; exact ⟨hprev, rH⟩
 clear hSd
 clear hprev HS11 hG rG bG rH oH bH
 have F_okd : Hid (∀ W, S12 W → CpOk W (dE G_1 G_3 G_22 G_24 9)) := by show ∀ W, _; exact fun W hW => dE_ok (F_v1.out _ (D2.out _ (D3.out _ (D4.out _ (D5.out _ (D6.out _ (D7.out _ (D8.out _ (D9.out _ (D10.out _ (D11.out _ (D12.out _ hW)))))))))))) (F_n1.out _ (D3.out _ (D4.out _ (D5.out _ (D6.out _ (D7.out _ (D8.out _ (D9.out _ (D10.out _ (D11.out _ (D12.out _ hW))))))))))) (F_t2.out _ (D11.out _ (D12.out _ hW))) (F_T2.out _ (D12.out _ hW))
 go_wp2_with (first | (refine wpList_load_row rfl 31 _ rfl G_26 rfl 31 #[.int .i64 1, .slice (some ⟨G_1, 0, none⟩) 1 1, .slice (some ⟨G_3, 0, none⟩) 3 3, .slice (some ⟨G_24, 0, none⟩) 1 1, .int .i64 9, .slice none 0 0, .int .i64 0, .int .i64 0, .int .i64 0] (0, 0) _ (F_D.out _ HS12.out) Tryz.underlying31 rfl (by kernel_rfl) ?_) | (refine wpList_load_row rfl 31 _ rfl G_19 rfl 31 #[.int .i64 1, .slice (some ⟨G_1, 0, none⟩) 1 1, .slice (some ⟨G_3, 0, none⟩) 3 3, .slice (some ⟨G_15, 0, none⟩) 1 1, .int .i64 9, .slice (some ⟨G_17, 0, none⟩) 1 1, .int .i64 1, .int .i64 0, .int .i64 0] (0, 0) _ (F_C.out _ (D10.out _ (D11.out _ (D12.out _ HS12.out)))) Tryz.underlying31 rfl (by kernel_rfl) ?_))
 refine (merge_any (dE G_1 G_3 G_22 G_24 9) (cE G_1 G_3 G_8 G_13 G_15 G_17) w_28 (F_okd.out _ HS12.out) (F_okc.out _ (D10.out _ (D11.out _ (D12.out _ HS12.out))))).mono ?_
 rintro e w_29 ⟨cx, rfl, hcx, hdx, bb, htx⟩
 rw [mgZ_0 (joinsE _ _ _ _ _ _ _ _), mergeE_E] at hdx
 have Hdx := Lib.hid hdx
 clear hdx
 rw [mergeE_0.2 (joinsE _ _ _ _ _ _ _ _)]
 have hprev := st12.go HS12.out (bb)
 obtain ⟨S13, hSd⟩ : ∃ S : World → Prop, S = (fun W => S12 W ∧ CpOk W cx ∧ CpT W cx) := ⟨_, rfl⟩
 have st13 : St S13 := by rw [hSd]; infer_instance
 have D13 : Hid (∀ W, S13 W → S12 W) := by show ∀ W, _; rw [hSd]; exact fun W h => h.1
 have F_okx : Hid (∀ W, S13 W → CpOk W cx) := by show ∀ W, _; rw [hSd]; exact fun W h => h.2.1
 have F_tx : Hid (∀ W, S13 W → CpT W cx) := by show ∀ W, _; rw [hSd]; exact fun W h => h.2.2
 have HS13 : Hid (S13 w_29) := by show S13 w_29; rw [hSd]; exact ⟨hprev, hcx, htx⟩
 clear hSd
 clear hprev HS12 bb hcx htx
 go_wp2_with (refine at_alloc _ rfl ?_)
 refine Stop.to ?_
 refine wpList_alloc_gen rfl 31 rfl _ _ (zero_cp _) rfl ?_
 intro G_30 w_31 hG rG bG
 go_wp2_with (refine at_store _ _ _ rfl ?_)
 refine Stop.to ?_
 refine wpList_store_gen rfl 31 _ _ rfl G_30 cx.cells rfl rfl 31 _ rG (by kernel_rfl) rfl (by simp [CpV.cells, Value.oneCell']) ?_
 intro w_32 rH oH
 have bH : Below (w_29).heap.size w_29 w_32 := (bG.mono hG).trans (oH.below hG)
 have hXD : G_30 ≠ G_26 := Nat.ne_of_gt (Nat.lt_of_lt_of_le (F_D.out _ (D13.out _ HS13.out)).lt hG)
 have hprev := st13.go HS13.out (bH)
 obtain ⟨S14, hSd⟩ : ∃ S : World → Prop, S = (fun W => S13 W ∧ Row W G_30 31 cx.cells) := ⟨_, rfl⟩
 have st14 : St S14 := by rw [hSd]; infer_instance
 have D14 : Hid (∀ W, S14 W → S13 W) := by show ∀ W, _; rw [hSd]; exact fun W h => h.1
 have F_X : Hid (∀ W, S14 W → Row W G_30 31 cx.cells) := by show ∀ W, _; rw [hSd]; exact fun W h => h.2
 have HS14 : Hid (S14 w_32) := by show S14 w_32; rw [hSd]; exact ⟨hprev, rH⟩
 clear hSd
 clear hprev HS13 hG rG bG rH oH bH
 go_wp2_with (first | (refine wpList_load_row rfl 31 _ rfl G_19 rfl 31 #[.int .i64 1, .slice (some ⟨G_1, 0, none⟩) 1 1, .slice (some ⟨G_3, 0, none⟩) 3 3, .slice (some ⟨G_15, 0, none⟩) 1 1, .int .i64 9, .slice (some ⟨G_17, 0, none⟩) 1 1, .int .i64 1, .int .i64 0, .int .i64 0] (0, 0) _ (F_C.out _ (D10.out _ (D11.out _ (D12.out _ (D13.out _ (D14.out _ HS14.out)))))) Tryz.underlying31 rfl (by kernel_rfl) ?_) | (refine wpList_load_row rfl 31 _ rfl G_26 rfl 31 #[.int .i64 1, .slice (some ⟨G_1, 0, none⟩) 1 1, .slice (some ⟨G_3, 0, none⟩) 3 3, .slice (some ⟨G_24, 0, none⟩) 1 1, .int .i64 9, .slice none 0 0, .int .i64 0, .int .i64 0, .int .i64 0] (0, 0) _ (F_D.out _ (D13.out _ (D14.out _ HS14.out))) Tryz.underlying31 rfl (by kernel_rfl) ?_))
 refine (diff_any (cE G_1 G_3 G_8 G_13 G_15 G_17) (dE G_1 G_3 G_22 G_24 9) w_32 (F_okc.out _ (D10.out _ (D11.out _ (D12.out _ (D13.out _ (D14.out _ HS14.out)))))) (F_okd.out _ (D13.out _ (D14.out _ HS14.out)))).mono ?_
 rintro e w_33 ⟨A, cap, cs, rfl, hrd, hle, hni, -, hcs, bb, hrt⟩
 rw [diffE_E, if_pos rfl] at hcs
 rw [diffE_E]
 rw [show diffL (CpV.muts (cE G_1 G_3 G_8 G_13 G_15 G_17)) (CpV.muts (dE G_1 G_3 G_22 G_24 9)) = [(⟨[0], 5, 0⟩, 0, -1)] from diffL_E] at hcs
 obtain ⟨ch, rfl⟩ : ∃ ch, cs = [ch] := by
  have h9 := congrArg List.length hcs
  match cs, h9 with
  | [ch], _ => exact ⟨ch, rfl⟩
 have Hch : Hid (ch.a = 0 ∧ ch.b = -1) := by
  have h9 : ChV.data ch = (⟨[0], 5, 0⟩, 0, -1) := by simpa using hcs
  exact ⟨congrArg (fun x => x.2.1) h9, congrArg (fun x => x.2.2) h9⟩
 clear hcs
 have hprev := st14.go HS14.out (bb)
 obtain ⟨S15, hSd⟩ : ∃ S : World → Prop, S = (fun W => S14 W ∧ Rd W A (chsC [ch]) ∧ RowB W 51 A) := ⟨_, rfl⟩
 have st15 : St S15 := by rw [hSd]; infer_instance
 have D15 : Hid (∀ W, S15 W → S14 W) := by show ∀ W, _; rw [hSd]; exact fun W h => h.1
 have F_rdl : Hid (∀ W, S15 W → Rd W A (chsC [ch])) := by show ∀ W, _; rw [hSd]; exact fun W h => h.2.1
 have F_tl : Hid (∀ W, S15 W → RowB W 51 A) := by show ∀ W, _; rw [hSd]; exact fun W h => h.2.2
 have HS15 : Hid (S15 w_33) := by show S15 w_33; rw [hSd]; exact ⟨hprev, hrd, hrt⟩
 clear hSd
 clear hprev HS14 bb hrd hle hni hrt
 go_wp2_with (refine at_store _ _ _ rfl ?_)
 refine Stop.to ?_
 refine wpList_store_part rfl 3 _ _ rfl G_26 4 rfl (.int .i64 8) rfl [.int .i64 8] rfl 31 _ #[.int .i64 1, .slice (some ⟨G_1, 0, none⟩) 1 1, .slice (some ⟨G_3, 0, none⟩) 3 3, .slice (some ⟨G_24, 0, none⟩) 1 1, .int .i64 8, .slice none 0 0, .int .i64 0, .int .i64 0, .int .i64 0] (F_D.out _ (D13.out _ (D14.out _ (D15.out _ HS15.out)))) (by kernel_rfl) (by show 4 + 1 ≤ 9; omega) (by simp [Value.oneCell']) rfl ?_
 intro w_34 rD8 oD
 have hne : ∀ (i : Nat) (t : TypeId) (cs : Array Value), Row w_33 i t cs → t ≠ 31 → i ≠ G_26 := fun i t cs hr ht e => by
  have h9 : (w_33).heap[G_26]? = some (.cells cs t (0, 0)) := by rw [← e]; exact hr
  rw [show (w_33).heap[G_26]? = some (.cells _ 31 (0, 0)) from (F_D.out _ (D13.out _ (D14.out _ (D15.out _ HS15.out))))] at h9
  injection h9 with h9; injection h9 with _ h9; exact ht h9.symm
 have hCD : G_19 ≠ G_26 := by
  intro e
  have h1 := (F_C.out _ (D10.out _ (D11.out _ (D12.out _ (D13.out _ (D14.out _ (D15.out _ HS15.out))))))).cellv (i := 5) (v := .slice (some ⟨G_17, 0, none⟩) 1 1) rfl
  rw [e, (F_D.out _ (D13.out _ (D14.out _ (D15.out _ HS15.out)))).cellv (i := 5) (v := .slice none 0 0) rfl] at h1
  cases h1
 obtain ⟨S16, hSd⟩ : ∃ S : World → Prop, S = (fun W => Below w.heap.size w W ∧ Row W G_1 3 (ints [0]).toArray ∧ Row W G_3 74 (bodyE.flatMap Nd.cells).toArray ∧ Row W G_8 3 (ints [0]).toArray ∧ Row W G_13 3 (ints [1]).toArray ∧ Row W G_15 22 (tstC [tvE G_13]).toArray ∧ Row W G_17 47 (mtsC [mvE G_8]).toArray ∧ Row W G_22 3 (ints [1]).toArray ∧ Row W G_24 22 (tstC [tvE G_22]).toArray ∧ Row W G_19 31 #[.int .i64 1, .slice (some ⟨G_1, 0, none⟩) 1 1, .slice (some ⟨G_3, 0, none⟩) 3 3, .slice (some ⟨G_15, 0, none⟩) 1 1, .int .i64 9, .slice (some ⟨G_17, 0, none⟩) 1 1, .int .i64 1, .int .i64 0, .int .i64 0] ∧ Row W G_30 31 cx.cells ∧ Row W G_26 31 #[.int .i64 1, .slice (some ⟨G_1, 0, none⟩) 1 1, .slice (some ⟨G_3, 0, none⟩) 3 3, .slice (some ⟨G_24, 0, none⟩) 1 1, .int .i64 8, .slice none 0 0, .int .i64 0, .int .i64 0, .int .i64 0] ∧ CpOk W cx ∧ Rd W A (chsC [ch])) := ⟨_, rfl⟩
 have st16 : St S16 := by rw [hSd]; infer_instance
 have F_low2 : Hid (∀ W, S16 W → Below w.heap.size w W) := by show ∀ W, _; rw [hSd]; exact fun W h => h.1
 have F_v1x : Hid (∀ W, S16 W → Row W G_1 3 (ints [0]).toArray) := by show ∀ W, _; rw [hSd]; exact fun W h => h.2.1
 have F_n1x : Hid (∀ W, S16 W → Row W G_3 74 (bodyE.flatMap Nd.cells).toArray) := by show ∀ W, _; rw [hSd]; exact fun W h => h.2.2.1
 have F_d1x : Hid (∀ W, S16 W → Row W G_8 3 (ints [0]).toArray) := by show ∀ W, _; rw [hSd]; exact fun W h => h.2.2.2.1
 have F_t1x : Hid (∀ W, S16 W → Row W G_13 3 (ints [1]).toArray) := by show ∀ W, _; rw [hSd]; exact fun W h => h.2.2.2.2.1
 have F_T1x : Hid (∀ W, S16 W → Row W G_15 22 (tstC [tvE G_13]).toArray) := by show ∀ W, _; rw [hSd]; exact fun W h => h.2.2.2.2.2.1
 have F_M1x : Hid (∀ W, S16 W → Row W G_17 47 (mtsC [mvE G_8]).toArray) := by show ∀ W, _; rw [hSd]; exact fun W h => h.2.2.2.2.2.2.1
 have F_t2x : Hid (∀ W, S16 W → Row W G_22 3 (ints [1]).toArray) := by show ∀ W, _; rw [hSd]; exact fun W h => h.2.2.2.2.2.2.2.1
 have F_T2x : Hid (∀ W, S16 W → Row W G_24 22 (tstC [tvE G_22]).toArray) := by show ∀ W, _; rw [hSd]; exact fun W h => h.2.2.2.2.2.2.2.2.1
 have F_Cx : Hid (∀ W, S16 W → Row W G_19 31 #[.int .i64 1, .slice (some ⟨G_1, 0, none⟩) 1 1, .slice (some ⟨G_3, 0, none⟩) 3 3, .slice (some ⟨G_15, 0, none⟩) 1 1, .int .i64 9, .slice (some ⟨G_17, 0, none⟩) 1 1, .int .i64 1, .int .i64 0, .int .i64 0]) := by show ∀ W, _; rw [hSd]; exact fun W h => h.2.2.2.2.2.2.2.2.2.1
 have F_Xx : Hid (∀ W, S16 W → Row W G_30 31 cx.cells) := by show ∀ W, _; rw [hSd]; exact fun W h => h.2.2.2.2.2.2.2.2.2.2.1
 have F_Dx : Hid (∀ W, S16 W → Row W G_26 31 #[.int .i64 1, .slice (some ⟨G_1, 0, none⟩) 1 1, .slice (some ⟨G_3, 0, none⟩) 3 3, .slice (some ⟨G_24, 0, none⟩) 1 1, .int .i64 8, .slice none 0 0, .int .i64 0, .int .i64 0, .int .i64 0]) := by show ∀ W, _; rw [hSd]; exact fun W h => h.2.2.2.2.2.2.2.2.2.2.2.1
 have F_okxx : Hid (∀ W, S16 W → CpOk W cx) := by show ∀ W, _; rw [hSd]; exact fun W h => h.2.2.2.2.2.2.2.2.2.2.2.2.1
 have F_rdlx : Hid (∀ W, S16 W → Rd W A (chsC [ch])) := by show ∀ W, _; rw [hSd]; exact fun W h => h.2.2.2.2.2.2.2.2.2.2.2.2.2
 have HS16 : Hid (S16 w_34) := by show S16 w_34; rw [hSd]; exact ⟨below_only (F_low.out _ (D1.out _ (D2.out _ (D3.out _ (D4.out _ (D5.out _ (D6.out _ (D7.out _ (D8.out _ (D9.out _ (D10.out _ (D11.out _ (D12.out _ (D13.out _ (D14.out _ (D15.out _ HS15.out)))))))))))))))) oD hGD, (F_v1.out _ (D2.out _ (D3.out _ (D4.out _ (D5.out _ (D6.out _ (D7.out _ (D8.out _ (D9.out _ (D10.out _ (D11.out _ (D12.out _ (D13.out _ (D14.out _ (D15.out _ HS15.out))))))))))))))).only oD (hne _ _ _ (F_v1.out _ (D2.out _ (D3.out _ (D4.out _ (D5.out _ (D6.out _ (D7.out _ (D8.out _ (D9.out _ (D10.out _ (D11.out _ (D12.out _ (D13.out _ (D14.out _ (D15.out _ HS15.out))))))))))))))) (by decide)), (F_n1.out _ (D3.out _ (D4.out _ (D5.out _ (D6.out _ (D7.out _ (D8.out _ (D9.out _ (D10.out _ (D11.out _ (D12.out _ (D13.out _ (D14.out _ (D15.out _ HS15.out)))))))))))))).only oD (hne _ _ _ (F_n1.out _ (D3.out _ (D4.out _ (D5.out _ (D6.out _ (D7.out _ (D8.out _ (D9.out _ (D10.out _ (D11.out _ (D12.out _ (D13.out _ (D14.out _ (D15.out _ HS15.out)))))))))))))) (by decide)), (F_d1.out _ (D5.out _ (D6.out _ (D7.out _ (D8.out _ (D9.out _ (D10.out _ (D11.out _ (D12.out _ (D13.out _ (D14.out _ (D15.out _ HS15.out)))))))))))).only oD (hne _ _ _ (F_d1.out _ (D5.out _ (D6.out _ (D7.out _ (D8.out _ (D9.out _ (D10.out _ (D11.out _ (D12.out _ (D13.out _ (D14.out _ (D15.out _ HS15.out)))))))))))) (by decide)), (F_t1.out _ (D7.out _ (D8.out _ (D9.out _ (D10.out _ (D11.out _ (D12.out _ (D13.out _ (D14.out _ (D15.out _ HS15.out)))))))))).only oD (hne _ _ _ (F_t1.out _ (D7.out _ (D8.out _ (D9.out _ (D10.out _ (D11.out _ (D12.out _ (D13.out _ (D14.out _ (D15.out _ HS15.out)))))))))) (by decide)), (F_T1.out _ (D8.out _ (D9.out _ (D10.out _ (D11.out _ (D12.out _ (D13.out _ (D14.out _ (D15.out _ HS15.out))))))))).only oD (hne _ _ _ (F_T1.out _ (D8.out _ (D9.out _ (D10.out _ (D11.out _ (D12.out _ (D13.out _ (D14.out _ (D15.out _ HS15.out))))))))) (by decide)), (F_M1.out _ (D9.out _ (D10.out _ (D11.out _ (D12.out _ (D13.out _ (D14.out _ (D15.out _ HS15.out)))))))).only oD (hne _ _ _ (F_M1.out _ (D9.out _ (D10.out _ (D11.out _ (D12.out _ (D13.out _ (D14.out _ (D15.out _ HS15.out)))))))) (by decide)), (F_t2.out _ (D11.out _ (D12.out _ (D13.out _ (D14.out _ (D15.out _ HS15.out)))))).only oD (hne _ _ _ (F_t2.out _ (D11.out _ (D12.out _ (D13.out _ (D14.out _ (D15.out _ HS15.out)))))) (by decide)), (F_T2.out _ (D12.out _ (D13.out _ (D14.out _ (D15.out _ HS15.out))))).only oD (hne _ _ _ (F_T2.out _ (D12.out _ (D13.out _ (D14.out _ (D15.out _ HS15.out))))) (by decide)), (F_C.out _ (D10.out _ (D11.out _ (D12.out _ (D13.out _ (D14.out _ (D15.out _ HS15.out))))))).only oD hCD, (F_X.out _ (D15.out _ HS15.out)).only oD hXD, rD8, (F_okx.out _ (D14.out _ (D15.out _ HS15.out))).onlyT (F_tx.out _ (D14.out _ (D15.out _ HS15.out))) oD (F_D.out _ (D13.out _ (D14.out _ (D15.out _ HS15.out)))), (F_rdl.out _ HS15.out).only oD (fun _ ad e => by obtain ⟨_, h⟩ := (F_tl.out _ HS15.out) ad e; exact hne _ _ _ h (by decide))⟩
 clear hSd
 clear hne hCD hXD rD8 oD HS15
 have F_okc8 : Hid (∀ W, S16 W → CpOk W (cE G_1 G_3 G_8 G_13 G_15 G_17)) := by show ∀ W, _; exact fun W hW => cE_ok (F_v1x.out _ hW) (F_n1x.out _ hW) (F_d1x.out _ hW) (F_t1x.out _ hW) (F_T1x.out _ hW) (F_M1x.out _ hW)
 have F_okd8 : Hid (∀ W, S16 W → CpOk W (dE G_1 G_3 G_22 G_24 8)) := by show ∀ W, _; exact fun W hW => dE_ok (F_v1x.out _ hW) (F_n1x.out _ hW) (F_t2x.out _ hW) (F_T2x.out _ hW)
 go_wp2_with (first | (refine wpList_load_row rfl 31 _ rfl G_26 rfl 31 #[.int .i64 1, .slice (some ⟨G_1, 0, none⟩) 1 1, .slice (some ⟨G_3, 0, none⟩) 3 3, .slice (some ⟨G_24, 0, none⟩) 1 1, .int .i64 8, .slice none 0 0, .int .i64 0, .int .i64 0, .int .i64 0] (0, 0) _ (F_Dx.out _ HS16.out) Tryz.underlying31 rfl (by kernel_rfl) ?_) | (refine wpList_load_row rfl 31 _ rfl G_19 rfl 31 #[.int .i64 1, .slice (some ⟨G_1, 0, none⟩) 1 1, .slice (some ⟨G_3, 0, none⟩) 3 3, .slice (some ⟨G_15, 0, none⟩) 1 1, .int .i64 9, .slice (some ⟨G_17, 0, none⟩) 1 1, .int .i64 1, .int .i64 0, .int .i64 0] (0, 0) _ (F_Cx.out _ HS16.out) Tryz.underlying31 rfl (by kernel_rfl) ?_))
 refine (merge_any (dE G_1 G_3 G_22 G_24 8) (cE G_1 G_3 G_8 G_13 G_15 G_17) w_34 (F_okd8.out _ HS16.out) (F_okc8.out _ HS16.out)).mono ?_
 rintro e w_35 ⟨cy, rfl, -, -, bb, -⟩
 rw [mergeE_8]
 have hprev := st16.go HS16.out (bb)
 replace HS16 := Lib.hid hprev
 clear hprev bb
 go_wp2_with (refine at_alloc _ rfl ?_)
 refine Stop.to ?_
 refine wpList_alloc_gen rfl 31 rfl _ _ (zero_cp _) rfl ?_
 intro G_36 w_37 hG rG bG
 go_wp2_with (refine at_store _ _ _ rfl ?_)
 refine Stop.to ?_
 refine wpList_store_gen rfl 31 _ _ rfl G_36 cy.cells rfl rfl 31 _ rG (by kernel_rfl) rfl (by simp [CpV.cells, Value.oneCell']) ?_
 intro w_38 rH oH
 have bH : Below (w_35).heap.size w_35 w_38 := (bG.mono hG).trans (oH.below hG)
 have hprev := st16.go HS16.out (bH)
 obtain ⟨S17, hSd⟩ : ∃ S : World → Prop, S = (fun W => S16 W ∧ Row W G_36 31 cy.cells) := ⟨_, rfl⟩
 have st17 : St S17 := by rw [hSd]; infer_instance
 have D17 : Hid (∀ W, S17 W → S16 W) := by show ∀ W, _; rw [hSd]; exact fun W h => h.1
 have F_Y : Hid (∀ W, S17 W → Row W G_36 31 cy.cells) := by show ∀ W, _; rw [hSd]; exact fun W h => h.2
 have HS17 : Hid (S17 w_38) := by show S17 w_38; rw [hSd]; exact ⟨hprev, rH⟩
 clear hSd
 clear hprev HS16 hG rG bG rH oH bH
 go_wp2_with (refine wpList_load_row rfl 31 _ rfl G_19 rfl 31 #[.int .i64 1, .slice (some ⟨G_1, 0, none⟩) 1 1, .slice (some ⟨G_3, 0, none⟩) 3 3, .slice (some ⟨G_15, 0, none⟩) 1 1, .int .i64 9, .slice (some ⟨G_17, 0, none⟩) 1 1, .int .i64 1, .int .i64 0, .int .i64 0] (0, 0) _ (F_Cx.out _ (D17.out _ HS17.out)) Tryz.underlying31 rfl (by kernel_rfl) ?_)
 refine (merge_any cp0 (cE G_1 G_3 G_8 G_13 G_15 G_17) w_38 (cp0_ok _) (F_okc8.out _ (D17.out _ HS17.out))).mono ?_
 rintro e w_39 ⟨cz, rfl, -, -, bb, -⟩
 rw [mergeE_z]
 have hprev := st17.go HS17.out (bb)
 replace HS17 := Lib.hid hprev
 clear hprev bb
 go_wp2_with (refine at_alloc _ rfl ?_)
 refine Stop.to ?_
 refine wpList_alloc_gen rfl 31 rfl _ _ (zero_cp _) rfl ?_
 intro G_40 w_41 hG rG bG
 go_wp2_with (refine at_store _ _ _ rfl ?_)
 refine Stop.to ?_
 refine wpList_store_gen rfl 31 _ _ rfl G_40 cz.cells rfl rfl 31 _ rG (by kernel_rfl) rfl (by simp [CpV.cells, Value.oneCell']) ?_
 intro w_42 rH oH
 have bH : Below (w_39).heap.size w_39 w_42 := (bG.mono hG).trans (oH.below hG)
 have hprev := st17.go HS17.out (bH)
 obtain ⟨S18, hSd⟩ : ∃ S : World → Prop, S = (fun W => S17 W ∧ Row W G_40 31 cz.cells) := ⟨_, rfl⟩
 have st18 : St S18 := by rw [hSd]; infer_instance
 have D18 : Hid (∀ W, S18 W → S17 W) := by show ∀ W, _; rw [hSd]; exact fun W h => h.1
 have F_Z : Hid (∀ W, S18 W → Row W G_40 31 cz.cells) := by show ∀ W, _; rw [hSd]; exact fun W h => h.2
 have HS18 : Hid (S18 w_42) := by show S18 w_42; rw [hSd]; exact ⟨hprev, rH⟩
 clear hSd
 clear hprev HS17 hG rG bG rH oH bH
 go_wp2_with (first | (refine wpList_load_row rfl 31 _ rfl G_30 rfl 31 cx.cells (0, 0) _ (F_Xx.out _ (D17.out _ (D18.out _ HS18.out))) Tryz.underlying31 rfl (by kernel_rfl) ?_) | (refine wpList_load_row rfl 31 _ rfl G_19 rfl 31 #[.int .i64 1, .slice (some ⟨G_1, 0, none⟩) 1 1, .slice (some ⟨G_3, 0, none⟩) 3 3, .slice (some ⟨G_15, 0, none⟩) 1 1, .int .i64 9, .slice (some ⟨G_17, 0, none⟩) 1 1, .int .i64 1, .int .i64 0, .int .i64 0] (0, 0) _ (F_Cx.out _ (D17.out _ (D18.out _ HS18.out))) Tryz.underlying31 rfl (by kernel_rfl) ?_))
 refine (refCpSame_any cx (cE G_1 G_3 G_8 G_13 G_15 G_17) w_42 (F_okxx.out _ (D17.out _ (D18.out _ HS18.out))) (F_okc8.out _ (D17.out _ (D18.out _ HS18.out)))).mono ?_
 rintro e w_43 ⟨rfl, bb⟩
 rw [show sameC cx (cE G_1 G_3 G_8 G_13 G_15 G_17) = true from sameC_iff.2 Hdx.out]
 have hprev := st18.go HS18.out (bb)
 replace HS18 := Lib.hid hprev
 clear hprev bb
 obtain ⟨ad, had, _⟩ := chV_at (l := [ch]) (F_rdlx.out _ (D17.out _ (D18.out _ HS18.out))) (k := 0) rfl
 have c3 : (w_43).cell? ⟨ad.block, ad.off + 3, none⟩ = some (.int .i64 0) := by
  obtain ⟨ad2, e2, h2⟩ := chV_at (l := [ch]) (F_rdlx.out _ (D17.out _ (D18.out _ HS18.out))) (k := 0) rfl
  rw [had] at e2; injection e2 with e2; subst e2
  have h3 := h2 3 (.int .i64 ch.a) rfl
  rw [Hch.out.1] at h3; exact h3
 have c4 : (w_43).cell? ⟨ad.block, ad.off + 4, none⟩ = some (.int .i64 (-1)) := by
  obtain ⟨ad2, e2, h2⟩ := chV_at (l := [ch]) (F_rdlx.out _ (D17.out _ (D18.out _ HS18.out))) (k := 0) rfl
  rw [had] at e2; injection e2 with e2; subst e2
  have h3 := h2 4 (.int .i64 ch.b) rfl
  rw [Hch.out.2] at h3; exact h3
 subst had
 go_wp2_with fail
 go_ret
 exact ⟨rfl, (F_low2.out _ (D17.out _ (D18.out _ HS18.out)))⟩
end Go.Proofs.YtcgglolckkeeiaaGreat
namespace Go.Proofs.YtcgglolckkeeiaaGreat
set_option linter.unusedVariables false
open Go.RowKit Go.Deep
def InZ (d : Dl) (l : List Mt) (p : Int × Int) : Prop := (p = (0, 0) ∧ ∀ m ∈ l, cmpD m.d d ≠ 0) ∨ (p.1 = 1 ∧ ∃ m ∈ l, cmpD m.d d = 0 ∧ p.2 = m.verdict)
theorem InZ.nil (d : Dl) : InZ d [] (0, 0) := .inl ⟨rfl, fun m hm => by simp at hm⟩
theorem InZ.yes {d : Dl} {pre l : List Mt} {k : Nat} {m : Mt} (hm : l[k]? = some m) (hd : cmpD m.d d = 0) : InZ d (pre ++ l.take (k + 1)) (1, m.verdict) :=
 .inr ⟨rfl, m, by rw [List.take_add_one, hm]; simp, hd, rfl⟩
theorem InZ.no {d : Dl} {pre l : List Mt} {k : Nat} {m : Mt} {p : Int × Int} (h : InZ d (pre ++ l.take k) p) (hm : l[k]? = some m) (hd : ¬ cmpD m.d d = 0) : InZ d (pre ++ l.take (k + 1)) p := by
 rw [List.take_add_one, hm, ← List.append_assoc]
 rcases h with ⟨h1, h2⟩ | ⟨h1, x, hx, h2⟩
 · refine .inl ⟨h1, fun y hy => ?_⟩
   rcases List.mem_append.1 hy with hy | hy
   · exact h2 y hy
   · simp only [Option.toList_some, List.mem_singleton] at hy
     rw [hy]; exact hd
 · exact .inr ⟨h1, x, List.mem_append.2 (.inl hx), h2⟩
theorem InZ.full {d : Dl} {pre l : List Mt} {p : Int × Int} {n : Nat} (h : InZ d (pre ++ l.take n) p) (hn : l.length ≤ n) : InZ d (pre ++ l) p := by rwa [List.take_of_length_le hn] at h
def CnZ {α : Type} (g : α → Dl) (d : Dl) (l : List α) (c : Int) : Prop := (c = 0 ∧ ∀ m ∈ l, cmpD (g m) d ≠ 0) ∨ (c = 1 ∧ ∃ m ∈ l, cmpD (g m) d = 0)
theorem CnZ.nil {α : Type} (g : α → Dl) (d : Dl) : CnZ g d [] 0 := .inl ⟨rfl, fun m hm => by simp at hm⟩
theorem CnZ.yes {α : Type} {g : α → Dl} {d : Dl} {l : List α} (hl : l.Pairwise fun x y => cmpD (g x) (g y) < 0) {k : Nat} {m : α} {c : Int} (h : CnZ g d (l.take k) c) (hm : l[k]? = some m) (hd : cmpD (g m) d = 0) : CnZ g d (l.take (k + 1)) (c + 1) := by
 rcases h with ⟨rfl, _⟩ | ⟨_, x, hx, h2⟩
 · exact .inr ⟨rfl, m, by rw [List.take_add_one, hm]; simp, hd⟩
 · obtain ⟨j, hj, e⟩ := List.mem_iff_getElem.1 hx
   rw [List.length_take] at hj
   rw [List.getElem_take] at e
   have h3 := pw_get hl (i := j) (j := k) (x := x) (y := m) (by rw [← e]; exact List.getElem?_eq_getElem _) hm (by omega)
   rw [cmpD_eq.1 h2, cmpD_eq.1 hd, cmpD_self] at h3
   omega
theorem CnZ.no {α : Type} {g : α → Dl} {d : Dl} {l : List α} {k : Nat} {m : α} {c : Int} (h : CnZ g d (l.take k) c) (hm : l[k]? = some m) (hd : ¬ cmpD (g m) d = 0) : CnZ g d (l.take (k + 1)) c := by
 rw [List.take_add_one, hm]
 rcases h with ⟨h1, h2⟩ | ⟨h1, x, hx, h2⟩
 · refine .inl ⟨h1, fun y hy => ?_⟩
   rcases List.mem_append.1 hy with hy | hy
   · exact h2 y hy
   · simp only [Option.toList_some, List.mem_singleton] at hy
     rw [hy]; exact hd
 · exact .inr ⟨h1, x, List.mem_append.2 (.inl hx), h2⟩
theorem CnZ.full {α : Type} {g : α → Dl} {d : Dl} {l : List α} {c : Int} {n : Nat} (h : CnZ g d (l.take n) c) (hn : l.length ≤ n) : CnZ g d l c := by rwa [List.take_of_length_le hn] at h
theorem Joins.union {a b x : CpV} (h : Joins a b) (e : x.data = mergeD a.data b.data) {d : Dl} {p : Int × Int} {c : Int} (hp : InZ d (a.muts ++ b.muts) p) (hc : CnZ Mt.d d x.muts c) : c = p.1 := by
 have e6 : x.muts = mergeM a.muts b.muts := congrArg Cd.muts e
 have hm := agreeM_mem h.ha.rise h.hb.rise h.agree
 rcases hp with ⟨rfl, h2⟩ | ⟨h1, m, hmm, h2, _⟩
 · rcases hc with ⟨rfl, _⟩ | ⟨_, y, hy, h3⟩
   · rfl
   · rw [e6, hm] at hy
     exact absurd h3 (h2 y (List.mem_append.2 hy))
 · rcases hc with ⟨_, h3⟩ | ⟨rfl, _⟩
   · exact absurd h2 (h3 m (by rw [e6, hm]; exact List.mem_append.1 hmm))
   · exact h1.symm
theorem Joins.verdict {a b x : CpV} (h : Joins a b) (e : x.data = mergeD a.data b.data) {d : Dl} {p : Int × Int} (hp : InZ d (a.muts ++ b.muts) p) {y : Mt} (hy : y ∈ x.muts) (hd : cmpD y.d d = 0) : y.verdict = p.2 := by
 have e6 : x.muts = mergeM a.muts b.muts := congrArg Cd.muts e
 have hm := agreeM_mem h.ha.rise h.hb.rise h.agree
 rcases hp with ⟨_, h2⟩ | ⟨_, m, hmm, h2, h3⟩
 · rw [e6, hm] at hy
   exact absurd hd (h2 y (List.mem_append.2 hy))
 · have hmx : m ∈ mergeM a.muts b.muts := (hm m).2 (List.mem_append.1 hmm)
   rw [e6] at hy
   have := riseM_uniq (mergeM_rise h.ha.rise h.hb.rise) hy hmx (by rw [cmpD_eq.1 h2, cmpD_eq.1 hd, cmpD_self])
   rw [this]; exact h3.symm
end Go.Proofs.YtcgglolckkeeiaaGreat
namespace Go.Proofs.YtcgglolckkeeiaaGreat
set_option linter.unusedVariables false
open Go.RowKit Go.Deep
theorem eql_sc (a b c : Int) (W : World) : (binOp .eql 29 (.agg #[.int .i64 a, .int .i64 b, .int .i64 c]) (.agg #[.int .i64 a, .int .i64 b, .int .i64 c])).run Tryz.prog W = .ok (.bool true) W := by
 simp [go_sem]
end Go.Proofs.YtcgglolckkeeiaaGreat
namespace Go.Proofs.YtcgglolckkeeiaaGreat
set_option linter.unusedVariables false
open Go.RowKit Go.Deep
set_option maxRecDepth 100000 in
set_option maxHeartbeats 16000000 in
theorem joinUnion_walk (a b : CpV) (d : DlV) (w : World) (ha : CpRaw w a ∧ CpIn a) (hb : CpRaw w b ∧ CpIn b) (hd : DlRaw w d) : Calls Tryz.prog 5 #[.agg a.cells, .agg b.cells, .agg d.cells] w fun e w' => e = .returned (.bool true) ∧ Below w.heap.size w w' := by
 go_enter Tryz.func5, Tryz.ntmps5
 obtain ⟨S0, hSd⟩ : ∃ S : World → Prop, S = (fun W => Below w.heap.size w W ∧ CpRaw W a ∧ CpRaw W b ∧ DlRaw W d) := ⟨_, rfl⟩
 have st0 : St S0 := by rw [hSd]; infer_instance
 have F_low : Hid (∀ W, S0 W → Below w.heap.size w W) := by show ∀ W, _; rw [hSd]; exact fun W h => h.1
 have F_ra : Hid (∀ W, S0 W → CpRaw W a) := by show ∀ W, _; rw [hSd]; exact fun W h => h.2.1
 have F_rb : Hid (∀ W, S0 W → CpRaw W b) := by show ∀ W, _; rw [hSd]; exact fun W h => h.2.2.1
 have F_rd : Hid (∀ W, S0 W → DlRaw W d) := by show ∀ W, _; rw [hSd]; exact fun W h => h.2.2.2
 have HS0 : Hid (S0 w) := by show S0 w; rw [hSd]; exact ⟨Below.refl _ _, ha.1, hb.1, hd⟩
 clear hSd
 have HIa : Hid (CpIn a) := ha.2
 have HIb : Hid (CpIn b) := hb.2
 clear ha hb hd
 go_wp2_with (refine at_box _ _ rfl ?_)
 refine Stop.to ?_
 refine wpList_box_gen rfl 31 _ rfl a.cells rfl ?_
 intro G_1 w_2 hG rG bG
 have hprev := st0.go HS0.out (bG.mono hG)
 obtain ⟨S1, hSd⟩ : ∃ S : World → Prop, S = (fun W => S0 W ∧ Row W G_1 31 a.cells) := ⟨_, rfl⟩
 have st1 : St S1 := by rw [hSd]; infer_instance
 have D1 : Hid (∀ W, S1 W → S0 W) := by show ∀ W, _; rw [hSd]; exact fun W h => h.1
 have F_A : Hid (∀ W, S1 W → Row W G_1 31 a.cells) := by show ∀ W, _; rw [hSd]; exact fun W h => h.2
 have HS1 : Hid (S1 w_2) := by show S1 w_2; rw [hSd]; exact ⟨hprev, rG⟩
 clear hSd
 clear hprev HS0 hG rG bG
 go_wp2_with (refine at_box _ _ rfl ?_)
 refine Stop.to ?_
 refine wpList_box_gen rfl 31 _ rfl b.cells rfl ?_
 intro G_3 w_4 hG rG bG
 have hprev := st1.go HS1.out (bG.mono hG)
 obtain ⟨S2, hSd⟩ : ∃ S : World → Prop, S = (fun W => S1 W ∧ Row W G_3 31 b.cells) := ⟨_, rfl⟩
 have st2 : St S2 := by rw [hSd]; infer_instance
 have D2 : Hid (∀ W, S2 W → S1 W) := by show ∀ W, _; rw [hSd]; exact fun W h => h.1
 have F_B : Hid (∀ W, S2 W → Row W G_3 31 b.cells) := by show ∀ W, _; rw [hSd]; exact fun W h => h.2
 have HS2 : Hid (S2 w_4) := by show S2 w_4; rw [hSd]; exact ⟨hprev, rG⟩
 clear hSd
 clear hprev HS1 hG rG bG
 go_wp2_with (refine at_box _ _ rfl ?_)
 refine Stop.to ?_
 refine wpList_box_gen rfl 42 _ rfl d.cells rfl ?_
 intro G_5 w_6 hG rG bG
 have hprev := st2.go HS2.out (bG.mono hG)
 obtain ⟨S3, hSd⟩ : ∃ S : World → Prop, S = (fun W => S2 W ∧ Row W G_5 42 d.cells) := ⟨_, rfl⟩
 have st3 : St S3 := by rw [hSd]; infer_instance
 have D3 : Hid (∀ W, S3 W → S2 W) := by show ∀ W, _; rw [hSd]; exact fun W h => h.1
 have F_D : Hid (∀ W, S3 W → Row W G_5 42 d.cells) := by show ∀ W, _; rw [hSd]; exact fun W h => h.2
 have HS3 : Hid (S3 w_6) := by show S3 w_6; rw [hSd]; exact ⟨hprev, rG⟩
 clear hSd
 clear hprev HS2 hG rG bG
 go_wp2_with fail
 refine (works25_any w_6).mono ?_
 rintro e w_7 ⟨rfl, bb⟩
 have hprev := st3.go HS3.out (bb)
 replace HS3 := Lib.hid hprev
 clear hprev bb
 go_wp2_with (first | (refine wpList_load_rowG rfl 31 _ rfl G_1 rfl 31 a.cells (0, 0) _ (F_A.out _ (D2.out _ (D3.out _ HS3.out))) Tryz.underlying31 rfl (by kernel_rfl) ?_) | (refine wpList_load_rowG rfl 31 _ rfl G_3 rfl 31 b.cells (0, 0) _ (F_B.out _ (D3.out _ HS3.out)) Tryz.underlying31 rfl (by kernel_rfl) ?_) | (refine wpList_load_row rfl 31 _ rfl G_1 rfl 31 a.cells (0, 0) _ (F_A.out _ (D2.out _ (D3.out _ HS3.out))) Tryz.underlying31 rfl (by kernel_rfl) ?_) | (refine wpList_load_row rfl 31 _ rfl G_3 rfl 31 b.cells (0, 0) _ (F_B.out _ (D3.out _ HS3.out)) Tryz.underlying31 rfl (by kernel_rfl) ?_))
 refine (few25_any a b w_7 (F_ra.out _ (D1.out _ (D2.out _ (D3.out _ HS3.out)))) (F_rb.out _ (D1.out _ (D2.out _ (D3.out _ HS3.out))))).mono ?_
 rintro e w_8 ⟨rfl, bb⟩
 have hprev := st3.go HS3.out (bb)
 replace HS3 := Lib.hid hprev
 clear hprev bb
 generalize hqab : (fewC a && fewC b) = qab
 have Hqab := Lib.hid hqab
 clear hqab
 cases qab
 · skip
   go_wp2_with fail
   go_ret
   exact ⟨rfl, (F_low.out _ (D1.out _ (D2.out _ (D3.out _ HS3.out))))⟩
 have hfqab : fewC a = true ∧ fewC b = true := by have h := Hqab.out; rwa [Bool.and_eq_true] at h
 have F_oka : Hid (∀ W, S3 W → CpOk W a) := by show ∀ W, _; exact fun W hW => ((F_ra.out _ (D1.out _ (D2.out _ (D3.out _ hW))))).ok hfqab.1
 have Hma : Hid (a.mts.length ≤ 250) := (fewC_of hfqab.1).2.2.2.2.1
 have hmaI : (a.mts.length : Int) ≤ 250 := by have := Hma.out; omega
 have F_okb : Hid (∀ W, S3 W → CpOk W b) := by show ∀ W, _; exact fun W hW => ((F_rb.out _ (D1.out _ (D2.out _ (D3.out _ hW))))).ok hfqab.2
 have Hmb : Hid (b.mts.length ≤ 250) := (fewC_of hfqab.2).2.2.2.2.1
 have hmbI : (b.mts.length : Int) ≤ 250 := by have := Hmb.out; omega
 clear hfqab Hqab
 have cd := (F_D.out _ HS3.out).cellv (i := 0) (v := .slice d.A d.d.path.length d.cap) rfl
 by_cases hp : 60 < (d.d.path.length : Int)
 · skip
   go_wp2_with fail
   go_ret
   exact ⟨rfl, (F_low.out _ (D1.out _ (D2.out _ (D3.out _ HS3.out))))⟩
 clear cd
 have Hp : Hid (d.d.path.length ≤ 60) := by show _ ≤ _; omega
 have hpn : ¬ (60 < (d.d.path.length : Int)) := hp
 clear hp
 have cd := (F_D.out _ HS3.out).cellv (i := 0) (v := .slice d.A d.d.path.length d.cap) rfl
 have F_okd : Hid (∀ W, S3 W → DlOk W d) := by show ∀ W, _; exact fun W hW => ((F_rd.out _ (D1.out _ (D2.out _ (D3.out _ hW))))).ok (by have := Hp.out; omega)
 go_wp2_with (first | (refine wpList_load_row rfl 31 _ rfl G_1 rfl 31 a.cells (0, 0) _ (F_A.out _ (D2.out _ (D3.out _ HS3.out))) Tryz.underlying31 rfl (by kernel_rfl) ?_) | (refine wpList_load_row rfl 31 _ rfl G_3 rfl 31 b.cells (0, 0) _ (F_B.out _ (D3.out _ HS3.out)) Tryz.underlying31 rfl (by kernel_rfl) ?_))
 refine (merge_any a b w_8 (F_oka.out _ HS3.out) (F_okb.out _ HS3.out)).mono ?_
 rintro e w_9 ⟨cx, rfl, hcx, hdx, bb, -⟩
 have Hdx := Lib.hid hdx
 clear hdx
 have hprev := st3.go HS3.out (bb)
 obtain ⟨S4, hSd⟩ : ∃ S : World → Prop, S = (fun W => S3 W ∧ CpOk W cx) := ⟨_, rfl⟩
 have st4 : St S4 := by rw [hSd]; infer_instance
 have D4 : Hid (∀ W, S4 W → S3 W) := by show ∀ W, _; rw [hSd]; exact fun W h => h.1
 have F_okcx : Hid (∀ W, S4 W → CpOk W cx) := by show ∀ W, _; rw [hSd]; exact fun W h => h.2
 have HS4 : Hid (S4 w_9) := by show S4 w_9; rw [hSd]; exact ⟨hprev, hcx⟩
 clear hSd
 clear hprev HS3 bb hcx
 clear cd
 go_wp2_with (refine at_alloc _ rfl ?_)
 refine Stop.to ?_
 refine wpList_alloc_gen rfl 31 rfl _ _ (zero_cp _) rfl ?_
 intro G_10 w_11 hG rG bG
 go_wp2_with (refine at_store _ _ _ rfl ?_)
 refine Stop.to ?_
 refine wpList_store_gen rfl 31 _ _ rfl G_10 cx.cells rfl rfl 31 _ rG (by kernel_rfl) rfl (by simp [CpV.cells, Value.oneCell']) ?_
 intro w_12 rH oH
 have bH : Below (w_9).heap.size w_9 w_12 := (bG.mono hG).trans (oH.below hG)
 have hprev := st4.go HS4.out (bH)
 obtain ⟨S5, hSd⟩ : ∃ S : World → Prop, S = (fun W => S4 W ∧ Row W G_10 31 cx.cells) := ⟨_, rfl⟩
 have st5 : St S5 := by rw [hSd]; infer_instance
 have D5 : Hid (∀ W, S5 W → S4 W) := by show ∀ W, _; rw [hSd]; exact fun W h => h.1
 have F_X : Hid (∀ W, S5 W → Row W G_10 31 cx.cells) := by show ∀ W, _; rw [hSd]; exact fun W h => h.2
 have HS5 : Hid (S5 w_12) := by show S5 w_12; rw [hSd]; exact ⟨hprev, rH⟩
 clear hSd
 clear hprev HS4 hG rG bG rH oH bH
 obtain ⟨em, hem⟩ : ∃ em, em = mergeE a b := ⟨_, rfl⟩
 rw [← hem]
 by_cases h0 : em = 0
 rotate_left
 · have h1 : (em != 0) = true := by simpa using h0
   have h2 : cx.data = cp0.data := Hdx.out.trans (mgZ_no (by rw [← hem]; exact h0))
   have h3 : cx.mts.length = 0 := by have h4 := congrArg (fun c : Cd => c.muts.length) h2; simpa [CpV.data, CpV.muts, cp0] using h4
   clear h2 hem h0
   have c5 := (F_X.out _ HS5.out).cellv (i := 5) (v := .slice cx.mA cx.mts.length cx.mcap) rfl
   go_wp2_with fail
   go_ret
   exact ⟨rfl, (F_low.out _ (D1.out _ (D2.out _ (D3.out _ (D4.out _ (D5.out _ HS5.out))))))⟩
 subst h0
 have HJ : Hid (Joins a b) := mergeE_0.1 hem.symm
 have Hx0 : Hid (cx.data = mergeD a.data b.data) := Hdx.out.trans (mgZ_0 HJ.out)
 clear hem hpn
 have Hlx : Hid (cx.mts.length ≤ 500) := by
  have h1 := congrArg (fun c : Cd => c.muts.length) Hx0.out
  have h2 := mergeM_length a.muts b.muts
  have := Hma.out; have := Hmb.out
  simp only [CpV.data, mergeD, CpV.muts, List.length_map] at h1 h2
  show _ ≤ _; omega
 have hlxI : (cx.mts.length : Int) ≤ 500 := by have := Hlx.out; omega
 have ca := (F_A.out _ (D2.out _ (D3.out _ (D4.out _ (D5.out _ HS5.out))))).cellv (i := 5) (v := .slice a.mA a.mts.length a.mcap) rfl
 have h0S := HS5.out
 go_wp2_with fail
 clear ca
 go_loopw [10, 11, 12] (fun z0 z1 i wr => ∃ k : Nat, i = .int .i64 (k : Int) ∧ k ≤ a.mts.length ∧ (∃ p : Int × Int, z0 = .int .i64 p.1 ∧ z1 = .int .i64 p.2 ∧ Hid (InZ d.d ([] ++ a.muts.take k) p)) ∧ S5 wr) (fun _ _  i _ => a.mts.length - (intOf i).toNat)
 case atStart => exact ⟨0, rfl, Nat.zero_le _, ⟨(0, 0), rfl, rfl, InZ.nil d.d⟩, h0S⟩
 case round =>
  clear h0S HS5
  obtain ⟨k, rfl, hk, ⟨p, rfl, rfl, HR⟩, hS9⟩ := hrel
  by_cases hkn : k < a.mts.length
  · skip
    obtain ⟨x, hx⟩ : ∃ x, a.mts[k]? = some x := ⟨_, List.getElem?_eq_getElem hkn⟩
    have Hx := Lib.hid hx
    have Hxm : Hid (a.muts[k]? = some x.m) := by show _ = _; unfold CpV.muts; rw [List.getElem?_map, hx]; rfl
    obtain ⟨ad, had, _⟩ := mt_at ((F_oka.out _ (D4.out _ (D5.out _ hS9)))).mrd hx
    have Hc : Hid (∀ W, S5 W → ∀ i u, x.cells[i]? = some u → W.cell? ((ad.add (k * 8)).add i) = some u) := fun W hW => by
     obtain ⟨ad', e1, e2⟩ := mt_at ((F_oka.out _ (D4.out _ (D5.out _ hW)))).mrd Hx.out
     rw [had] at e1; injection e1 with e1; subst e1; exact e2
    have C5 : Hid (∀ W, S5 W → W.cell? ⟨G_1, 5, none⟩ = some (.slice (some ad) a.mts.length a.mcap)) := fun W hW => by rw [← had]; exact cp_mut (F_A.out _ (D2.out _ (D3.out _ (D4.out _ (D5.out _ hW)))))
    have hka : (k : Int) < (a.mts.length : Int) := by omega
    have cc := C5.out _ hS9
    clear hx had
    go_wp2_with fail
    clear cc
    refine region_hold S5 (by kernel_rfl) (by kernel_rfl) (St.drew hS9) ?_
    clear hS9
    (refine hold_value rfl ?_ (fun W hW => ?_) ?_; rotate_left; (focus (go_simp; exact rfl)); simp only [Act.put, List.setIfInBounds_toArray, List.set_cons_zero, List.set_cons_succ])
    (refine hold_value rfl ?_ (fun W hW => ?_) ?_; rotate_left; (focus (have c := C5.out W hW; go_simp; exact rfl)); simp only [Act.put, List.setIfInBounds_toArray, List.set_cons_zero, List.set_cons_succ])
    iterate 3 (refine hold_value rfl ?_ (fun W hW => ?_) ?_; rotate_left; (focus (go_simp; exact rfl)); simp only [Act.put, List.setIfInBounds_toArray, List.set_cons_zero, List.set_cons_succ])
    (refine hold_load_at rfl 42 _ rfl (_) rfl x.dl.cells.toList _ (fun W hW => mt_dlat (Hc.out W hW)) Tryz.underlying42 rfl (by kernel_rfl) ?_; simp only [Act.put, List.setIfInBounds_toArray, List.set_cons_zero, List.set_cons_succ])
    (refine hold_load_row rfl 42 _ rfl (G_5) rfl 42 _ _ (fun W hW => (F_D.out _ (D4.out _ (D5.out _ hW)))) Tryz.underlying42 rfl (by kernel_rfl) ?_; simp only [Act.put, List.setIfInBounds_toArray, List.set_cons_zero, List.set_cons_succ])
    (refine hold_call_new rfl 23 _ (fun W => by (go_simp; try rfl)) (.bool (decide (cmpD x.m.d d.d = 0))) (fun W hW => dlSame_any x.dl d W (((F_oka.out _ (D4.out _ (D5.out _ hW)))).mok x (List.mem_of_getElem? Hx.out)).dl (F_okd.out _ (D4.out _ (D5.out _ hW)))) ?_; simp only [Act.put, List.setIfInBounds_toArray, List.set_cons_zero, List.set_cons_succ])
    refine wpHold_nil fun W9 hS9 => ?_
    by_cases hd : cmpD x.m.d d.d = 0
    · have cc := C5.out _ hS9
      have c3 : W9.cell? ⟨(ad.add (k * 8)).block, (ad.add (k * 8)).off + 3, none⟩ = some (.int .i64 x.m.verdict) := Hc.out W9 hS9 3 _ rfl
      have HN : Hid (InZ d.d ([] ++ a.muts.take (k + 1)) (1, x.m.verdict)) := InZ.yes Hxm.out hd
      rw [decide_eq_true hd]
      clear hd HR Hxm Hx
      go_wp2_with fail
      exact ⟨⟨k + 1, by first | go_num | simp, by omega, ⟨(1, x.m.verdict), rfl, rfl, HN⟩, hS9⟩, by simp only [intOf]; omega⟩
    · have HN : Hid (InZ d.d ([] ++ a.muts.take (k + 1)) p) := InZ.no HR.out Hxm.out hd
      rw [decide_eq_false hd]
      clear hd HR Hxm Hx Hc C5
      go_wp2_with fail
      exact ⟨⟨k + 1, by first | go_num | simp, by omega, ⟨p, rfl, rfl, HN⟩, hS9⟩, by simp only [intOf]; omega⟩
  obtain rfl : k = a.mts.length := by omega
  have hge : ¬ ((a.mts.length : Int) < (a.mts.length : Int)) := by omega
  have HP1 : Hid (InZ d.d ([] ++ a.muts) p) := HR.out.full (by unfold CpV.muts; rw [List.length_map]; exact Nat.le_refl _)
  clear HR hkn hk
  have HS5 := Lib.hid hS9
  clear hS9
  have ca := (F_A.out _ (D2.out _ (D3.out _ (D4.out _ (D5.out _ HS5.out))))).cellv (i := 5) (v := .slice a.mA a.mts.length a.mcap) rfl
  have cb := (F_B.out _ (D3.out _ (D4.out _ (D5.out _ HS5.out)))).cellv (i := 5) (v := .slice b.mA b.mts.length b.mcap) rfl
  obtain ⟨n1, v1⟩ := p
  have h0S := HS5.out
  go_wp2_with fail
  clear ca cb
  go_loopw [10, 11, 13] (fun z0 z1 i wr => ∃ k : Nat, i = .int .i64 (k : Int) ∧ k ≤ b.mts.length ∧ (∃ p : Int × Int, z0 = .int .i64 p.1 ∧ z1 = .int .i64 p.2 ∧ Hid (InZ d.d (([] ++ a.muts) ++ b.muts.take k) p)) ∧ S5 wr) (fun _ _  i _ => b.mts.length - (intOf i).toNat)
  case atStart => exact ⟨0, rfl, Nat.zero_le _, ⟨(n1, v1), rfl, rfl, by show InZ _ _ _; rw [List.take_zero, List.append_nil]; exact HP1.out⟩, h0S⟩
  case round =>
   clear h0S HS5
   obtain ⟨k, rfl, hk, ⟨p, rfl, rfl, HR⟩, hS9⟩ := hrel
   skip
   by_cases hkn : k < b.mts.length
   · skip
     obtain ⟨x, hx⟩ : ∃ x, b.mts[k]? = some x := ⟨_, List.getElem?_eq_getElem hkn⟩
     have Hx := Lib.hid hx
     have Hxm : Hid (b.muts[k]? = some x.m) := by show _ = _; unfold CpV.muts; rw [List.getElem?_map, hx]; rfl
     obtain ⟨ad, had, _⟩ := mt_at ((F_okb.out _ (D4.out _ (D5.out _ hS9)))).mrd hx
     have Hc : Hid (∀ W, S5 W → ∀ i u, x.cells[i]? = some u → W.cell? ((ad.add (k * 8)).add i) = some u) := fun W hW => by
      obtain ⟨ad', e1, e2⟩ := mt_at ((F_okb.out _ (D4.out _ (D5.out _ hW)))).mrd Hx.out
      rw [had] at e1; injection e1 with e1; subst e1; exact e2
     have C5 : Hid (∀ W, S5 W → W.cell? ⟨G_3, 5, none⟩ = some (.slice (some ad) b.mts.length b.mcap)) := fun W hW => by rw [← had]; exact cp_mut (F_B.out _ (D3.out _ (D4.out _ (D5.out _ hW))))
     have hka : (k : Int) < (b.mts.length : Int) := by omega
     have cc := C5.out _ hS9
     clear hx had
     go_wp2_with fail
     clear cc
     refine region_hold S5 (by kernel_rfl) (by kernel_rfl) (St.drew hS9) ?_
     clear hS9
     (refine hold_value rfl ?_ (fun W hW => ?_) ?_; rotate_left; (focus (go_simp; exact rfl)); simp only [Act.put, List.setIfInBounds_toArray, List.set_cons_zero, List.set_cons_succ])
     (refine hold_value rfl ?_ (fun W hW => ?_) ?_; rotate_left; (focus (have c := C5.out W hW; go_simp; exact rfl)); simp only [Act.put, List.setIfInBounds_toArray, List.set_cons_zero, List.set_cons_succ])
     iterate 3 (refine hold_value rfl ?_ (fun W hW => ?_) ?_; rotate_left; (focus (go_simp; exact rfl)); simp only [Act.put, List.setIfInBounds_toArray, List.set_cons_zero, List.set_cons_succ])
     (refine hold_load_at rfl 42 _ rfl (_) rfl x.dl.cells.toList _ (fun W hW => mt_dlat (Hc.out W hW)) Tryz.underlying42 rfl (by kernel_rfl) ?_; simp only [Act.put, List.setIfInBounds_toArray, List.set_cons_zero, List.set_cons_succ])
     (refine hold_load_row rfl 42 _ rfl (G_5) rfl 42 _ _ (fun W hW => (F_D.out _ (D4.out _ (D5.out _ hW)))) Tryz.underlying42 rfl (by kernel_rfl) ?_; simp only [Act.put, List.setIfInBounds_toArray, List.set_cons_zero, List.set_cons_succ])
     (refine hold_call_new rfl 23 _ (fun W => by (go_simp; try rfl)) (.bool (decide (cmpD x.m.d d.d = 0))) (fun W hW => dlSame_any x.dl d W (((F_okb.out _ (D4.out _ (D5.out _ hW)))).mok x (List.mem_of_getElem? Hx.out)).dl (F_okd.out _ (D4.out _ (D5.out _ hW)))) ?_; simp only [Act.put, List.setIfInBounds_toArray, List.set_cons_zero, List.set_cons_succ])
     refine wpHold_nil fun W9 hS9 => ?_
     by_cases hd : cmpD x.m.d d.d = 0
     · have cc := C5.out _ hS9
       have c3 : W9.cell? ⟨(ad.add (k * 8)).block, (ad.add (k * 8)).off + 3, none⟩ = some (.int .i64 x.m.verdict) := Hc.out W9 hS9 3 _ rfl
       have HN : Hid (InZ d.d (([] ++ a.muts) ++ b.muts.take (k + 1)) (1, x.m.verdict)) := InZ.yes Hxm.out hd
       rw [decide_eq_true hd]
       clear hd HR Hxm Hx
       go_wp2_with fail
       exact ⟨⟨k + 1, by first | go_num | simp, by omega, ⟨(1, x.m.verdict), rfl, rfl, HN⟩, hS9⟩, by simp only [intOf]; omega⟩
     · have HN : Hid (InZ d.d (([] ++ a.muts) ++ b.muts.take (k + 1)) p) := InZ.no HR.out Hxm.out hd
       rw [decide_eq_false hd]
       clear hd HR Hxm Hx Hc C5
       go_wp2_with fail
       exact ⟨⟨k + 1, by first | go_num | simp, by omega, ⟨p, rfl, rfl, HN⟩, hS9⟩, by simp only [intOf]; omega⟩
   obtain rfl : k = b.mts.length := by omega
   have hge : ¬ ((b.mts.length : Int) < (b.mts.length : Int)) := by omega
   have HP2 : Hid (InZ d.d (([] ++ a.muts) ++ b.muts) p) := HR.out.full (by unfold CpV.muts; rw [List.length_map]; exact Nat.le_refl _)
   clear HR hkn hk
   have HS5 := Lib.hid hS9
   clear hS9
   rw [List.nil_append] at HP2
   have cb := (F_B.out _ (D3.out _ (D4.out _ (D5.out _ HS5.out)))).cellv (i := 5) (v := .slice b.mA b.mts.length b.mcap) rfl
   have cx5 := (F_X.out _ HS5.out).cellv (i := 5) (v := .slice cx.mA cx.mts.length cx.mcap) rfl
   have h0S := HS5.out
   go_wp2_with fail
   clear cb cx5
   go_loopw [14, 15] (fun z i wr => ∃ (k : Nat) (c : Int), i = .int .i64 (k : Int) ∧ z = .int .i64 c ∧ k ≤ cx.mts.length ∧ Hid (CnZ Mt.d d.d (cx.muts.take k) c) ∧ S5 wr) (fun _ i _ => cx.mts.length - (intOf i).toNat)
   case atStart => exact ⟨0, 0, rfl, rfl, Nat.zero_le _, CnZ.nil _ _, h0S⟩
   case round =>
    clear h0S HS5
    obtain ⟨k, c, rfl, rfl, hk, HR, hS9⟩ := hrel
    by_cases hkn : k < cx.mts.length
    · skip
      obtain ⟨x, hx⟩ : ∃ x, cx.mts[k]? = some x := ⟨_, List.getElem?_eq_getElem hkn⟩
      have Hx := Lib.hid hx
      have Hxm : Hid (cx.muts[k]? = some x.m) := by show _ = _; unfold CpV.muts; rw [List.getElem?_map, hx]; rfl
      obtain ⟨ad, had, _⟩ := mt_at ((F_okcx.out _ (D5.out _ hS9))).mrd hx
      have Hc : Hid (∀ W, S5 W → ∀ i u, x.cells[i]? = some u → W.cell? ((ad.add (k * 8)).add i) = some u) := fun W hW => by
       obtain ⟨ad', e1, e2⟩ := mt_at ((F_okcx.out _ (D5.out _ hW))).mrd Hx.out
       rw [had] at e1; injection e1 with e1; subst e1; exact e2
      have C5 : Hid (∀ W, S5 W → W.cell? ⟨G_10, 5, none⟩ = some (.slice (some ad) cx.mts.length cx.mcap)) := fun W hW => by rw [← had]; exact cp_mut (F_X.out _ hW)
      have hka : (k : Int) < (cx.mts.length : Int) := by omega
      have cc := C5.out _ hS9
      clear hx had
      go_wp2_with fail
      clear cc
      refine region_hold S5 (by kernel_rfl) (by kernel_rfl) (St.drew hS9) ?_
      clear hS9
      (refine hold_value rfl ?_ (fun W hW => ?_) ?_; rotate_left; (focus (go_simp; exact rfl)); simp only [Act.put, List.setIfInBounds_toArray, List.set_cons_zero, List.set_cons_succ])
      (refine hold_value rfl ?_ (fun W hW => ?_) ?_; rotate_left; (focus (have c := C5.out W hW; go_simp; exact rfl)); simp only [Act.put, List.setIfInBounds_toArray, List.set_cons_zero, List.set_cons_succ])
      iterate 3 (refine hold_value rfl ?_ (fun W hW => ?_) ?_; rotate_left; (focus (go_simp; exact rfl)); simp only [Act.put, List.setIfInBounds_toArray, List.set_cons_zero, List.set_cons_succ])
      (refine hold_load_at rfl 42 _ rfl (_) rfl x.dl.cells.toList _ (fun W hW => mt_dlat (Hc.out W hW)) Tryz.underlying42 rfl (by kernel_rfl) ?_; simp only [Act.put, List.setIfInBounds_toArray, List.set_cons_zero, List.set_cons_succ])
      (refine hold_load_row rfl 42 _ rfl (G_5) rfl 42 _ _ (fun W hW => (F_D.out _ (D4.out _ (D5.out _ hW)))) Tryz.underlying42 rfl (by kernel_rfl) ?_; simp only [Act.put, List.setIfInBounds_toArray, List.set_cons_zero, List.set_cons_succ])
      (refine hold_call_new rfl 23 _ (fun W => by (go_simp; try rfl)) (.bool (decide (cmpD x.m.d d.d = 0))) (fun W hW => dlSame_any x.dl d W (((F_okcx.out _ (D5.out _ hW))).mok x (List.mem_of_getElem? Hx.out)).dl (F_okd.out _ (D4.out _ (D5.out _ hW)))) ?_; simp only [Act.put, List.setIfInBounds_toArray, List.set_cons_zero, List.set_cons_succ])
      refine wpHold_nil fun W9 hS9 => ?_
      have Hcb : Hid (0 ≤ c ∧ c ≤ 1) := by show 0 ≤ c ∧ c ≤ 1; rcases HR.out with ⟨h, _⟩ | ⟨h, _⟩ <;> (rw [h]; decide)
      by_cases hd : cmpD x.m.d d.d = 0
      · have cc := C5.out _ hS9
        have c3 : W9.cell? ⟨(ad.add (k * 8)).block, (ad.add (k * 8)).off + 3, none⟩ = some (.int .i64 x.m.verdict) := Hc.out W9 hS9 3 _ rfl
        have hpw : cx.muts.Pairwise fun x y => cmpD x.d y.d < 0 := by rw [show cx.muts = mergeM a.muts b.muts from congrArg Cd.muts Hx0.out]; exact riseM_pw (mergeM_rise HJ.out.ha.rise HJ.out.hb.rise)
        have HN : Hid (CnZ Mt.d d.d (cx.muts.take (k + 1)) (c + 1)) := CnZ.yes hpw HR.out Hxm.out hd
        have hv : x.m.verdict = p.2 := HJ.out.verdict Hx0.out HP2.out (List.mem_of_getElem? Hxm.out) hd
        have hcI : IntKind.i64.wrap (c + 1) = c + 1 := IntWalk.i64_in _ (by have := Hcb.out; omega)
        rw [decide_eq_true hd]
        rw [hv] at c3
        clear hd HR Hxm Hx hpw hv
        go_wp2_with fail
        exact ⟨⟨k + 1, c + 1, by first | go_num | simp, by first | rfl | simp [hcI], by omega, HN, hS9⟩, by simp only [intOf]; omega⟩
      · have HN : Hid (CnZ Mt.d d.d (cx.muts.take (k + 1)) c) := CnZ.no HR.out Hxm.out hd
        rw [decide_eq_false hd]
        clear hd HR Hxm Hx Hc C5
        go_wp2_with fail
        exact ⟨⟨k + 1, c, by first | go_num | simp, rfl, by omega, HN, hS9⟩, by simp only [intOf]; omega⟩
    obtain rfl : k = cx.mts.length := by omega
    have hge : ¬ ((cx.mts.length : Int) < (cx.mts.length : Int)) := by omega
    have hcp : c = p.1 := HJ.out.union Hx0.out HP2.out (HR.out.full (by unfold CpV.muts; rw [List.length_map]; exact Nat.le_refl _))
    subst hcp
    clear HR hkn hk
    have HS5 := Lib.hid hS9
    clear hS9
    have Hsc : Hid (cx.sc = scoreZ cx.muts) := (congrArg Cd.sc Hx0.out).trans (by rw [show cx.muts = mergeM a.muts b.muts from congrArg Cd.muts Hx0.out]; rfl)
    have cx5 := (F_X.out _ HS5.out).cellv (i := 5) (v := .slice cx.mA cx.mts.length cx.mcap) rfl
    go_wp2_with fail
    clear cx5
    refine region_hold S5 (by kernel_rfl) (by kernel_rfl) (St.drew HS5.out) ?_
    iterate 8 (refine hold_value rfl ?_ (fun W hW => ?_) ?_; rotate_left; (focus (go_simp; exact rfl)); simp only [Act.put, List.setIfInBounds_toArray, List.set_cons_zero, List.set_cons_succ])
    (refine hold_load_at rfl 29 _ rfl (_) rfl [.int .i64 cx.sc.alive, .int .i64 cx.sc.killed, .int .i64 cx.sc.timeout] _ (fun W hW => cp_score (F_X.out _ hW)) Tryz.underlying29 rfl (by kernel_rfl) ?_; simp only [Act.put, List.setIfInBounds_toArray, List.set_cons_zero, List.set_cons_succ])
    (refine hold_value rfl ?_ (fun W hW => ?_) ?_; rotate_left; (focus (go_simp; exact rfl)); simp only [Act.put, List.setIfInBounds_toArray, List.set_cons_zero, List.set_cons_succ])
    (refine hold_value rfl ?_ (fun W hW => ?_) ?_; rotate_left; (focus (have c5 := cp_mut (F_X.out _ hW); go_simp; exact rfl)); simp only [Act.put, List.setIfInBounds_toArray, List.set_cons_zero, List.set_cons_succ])
    (refine hold_call_new rfl 24 _ (fun W => by (go_simp; try rfl)) (.agg (scoreZ cx.muts).cells) (fun W hW => score_any cx.mA cx.mcap cx.mts W ((F_okcx.out _ (D5.out _ hW))).mrd (by have := Hlx.out; omega)) ?_; simp only [Act.put, List.setIfInBounds_toArray, List.set_cons_zero, List.set_cons_succ])
    refine hold_value rfl (.bool true) (fun W _ => run_exec_binop rfl _ (run_eqGuard_agg _ _ _ _ _ _ _ (by kernel_rfl)) (by rw [Hsc.out]; exact eql_sc _ _ _ W)) ?_
    simp only [Act.put, List.setIfInBounds_toArray, List.set_cons_zero, List.set_cons_succ]
    (refine hold_value rfl ?_ (fun W hW => ?_) ?_; rotate_left; (focus (go_simp; exact rfl)); simp only [Act.put, List.setIfInBounds_toArray, List.set_cons_zero, List.set_cons_succ])
    (refine hold_value rfl ?_ (fun W hW => ?_) ?_; rotate_left; (focus (go_simp; exact rfl)); simp only [Act.put, List.setIfInBounds_toArray, List.set_cons_zero, List.set_cons_succ])
    refine wpHold_nil fun W9 hW9 => ?_
    clear HS5
    have HS5 : Hid (S5 W9) := hW9
    clear hW9
    go_wp2_with fail
    go_ret
    exact ⟨rfl, (F_low.out _ (D1.out _ (D2.out _ (D3.out _ (D4.out _ (D5.out _ HS5.out))))))⟩
end Go.Proofs.YtcgglolckkeeiaaGreat
