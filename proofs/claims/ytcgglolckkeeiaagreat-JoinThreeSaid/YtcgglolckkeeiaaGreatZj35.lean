/- Lemmas for JnAll. -/
import Derived.Test.YtcgglolckkeeiaaGreatZj34
import Derived.Test.YtcgglolckkeeiaaGreatZj31
import Derived.Test.YtcgglolckkeeiaaGreatZj30
import Derived.Test.YtcgglolckkeeiaaGreatZj32
import Derived.Test.YtcgglolckkeeiaaGreatZj27
namespace Go.Proofs.YtcgglolckkeeiaaGreat
set_option linter.unusedVariables false
open Go.RowKit Go.Deep
set_option maxRecDepth 100000 in
set_option maxHeartbeats 16000000 in
theorem joinSides_walk (a b : CpV) (w : World) (ha : CpRaw w a ∧ CpIn a) (hb : CpRaw w b ∧ CpIn b) : Calls Tryz.prog 7 #[.agg a.cells, .agg b.cells] w fun e w' => e = .returned (.bool true) ∧ Below w.heap.size w w' := by
 go_enter Tryz.func7, Tryz.ntmps7
 obtain ⟨S0, hSd⟩ : ∃ S : World → Prop, S = (fun W => Below w.heap.size w W ∧ CpRaw W a ∧ CpRaw W b) := ⟨_, rfl⟩
 have st0 : St S0 := by rw [hSd]; infer_instance
 have F_low : Hid (∀ W, S0 W → Below w.heap.size w W) := by show ∀ W, _; rw [hSd]; exact fun W h => h.1
 have F_ra : Hid (∀ W, S0 W → CpRaw W a) := by show ∀ W, _; rw [hSd]; exact fun W h => h.2.1
 have F_rb : Hid (∀ W, S0 W → CpRaw W b) := by show ∀ W, _; rw [hSd]; exact fun W h => h.2.2
 have HS0 : Hid (S0 w) := by show S0 w; rw [hSd]; exact ⟨Below.refl _ _, ha.1, hb.1⟩
 clear hSd
 have HIa : Hid (CpIn a) := ha.2
 have HIb : Hid (CpIn b) := hb.2
 clear ha hb
 go_wp2_with (refine at_box _ _ rfl ?_)
 refine Stop.to ?_
 refine wpList_box_gen rfl 31 _ rfl a.cells rfl ?_
 intro G_1 w_2 hG rG bG
 have hprev := st0.go HS0.out (bG.mono hG)
 obtain ⟨S1, hSd⟩ : ∃ S : World → Prop, S = (fun W => S0 W ∧ Row W G_1 31 a.cells) := ⟨_, rfl⟩
 have st1 : St S1 := by rw [hSd]; infer_instance
 have D1 : Hid (∀ W, S1 W → S0 W) := by show ∀ W, _; rw [hSd]; exact fun W h => h.1
 have F_A : Hid (∀ W, S1 W → Row W G_1 31 a.cells) := by show ∀ W, _; rw [hSd]; exact fun W h => h.2
 have HS1 : Hid (S1 w_2) := by show S1 w_2; rw [hSd]; exact ⟨hprev, rG⟩
 clear hSd
 clear hprev HS0 hG rG bG
 go_wp2_with (refine at_box _ _ rfl ?_)
 refine Stop.to ?_
 refine wpList_box_gen rfl 31 _ rfl b.cells rfl ?_
 intro G_3 w_4 hG rG bG
 have hprev := st1.go HS1.out (bG.mono hG)
 obtain ⟨S2, hSd⟩ : ∃ S : World → Prop, S = (fun W => S1 W ∧ Row W G_3 31 b.cells) := ⟨_, rfl⟩
 have st2 : St S2 := by rw [hSd]; infer_instance
 have D2 : Hid (∀ W, S2 W → S1 W) := by show ∀ W, _; rw [hSd]; exact fun W h => h.1
 have F_B : Hid (∀ W, S2 W → Row W G_3 31 b.cells) := by show ∀ W, _; rw [hSd]; exact fun W h => h.2
 have HS2 : Hid (S2 w_4) := by show S2 w_4; rw [hSd]; exact ⟨hprev, rG⟩
 clear hSd
 clear hprev HS1 hG rG bG
 go_wp2_with fail
 refine (works25_any w_4).mono ?_
 rintro e w_5 ⟨rfl, bb⟩
 have hprev := st2.go HS2.out (bb)
 replace HS2 := Lib.hid hprev
 clear hprev bb
 go_wp2_with (first | (refine wpList_load_rowG rfl 31 _ rfl G_1 rfl 31 a.cells (0, 0) _ (F_A.out _ (D2.out _ HS2.out)) Tryz.underlying31 rfl (by kernel_rfl) ?_) | (refine wpList_load_rowG rfl 31 _ rfl G_3 rfl 31 b.cells (0, 0) _ (F_B.out _ HS2.out) Tryz.underlying31 rfl (by kernel_rfl) ?_) | (refine wpList_load_row rfl 31 _ rfl G_1 rfl 31 a.cells (0, 0) _ (F_A.out _ (D2.out _ HS2.out)) Tryz.underlying31 rfl (by kernel_rfl) ?_) | (refine wpList_load_row rfl 31 _ rfl G_3 rfl 31 b.cells (0, 0) _ (F_B.out _ HS2.out) Tryz.underlying31 rfl (by kernel_rfl) ?_))
 refine (few25_any a b w_5 (F_ra.out _ (D1.out _ (D2.out _ HS2.out))) (F_rb.out _ (D1.out _ (D2.out _ HS2.out)))).mono ?_
 rintro e w_6 ⟨rfl, bb⟩
 have hprev := st2.go HS2.out (bb)
 replace HS2 := Lib.hid hprev
 clear hprev bb
 generalize hqab : (fewC a && fewC b) = qab
 have Hqab := Lib.hid hqab
 clear hqab
 cases qab
 · skip
   go_wp2_with fail
   go_ret
   exact ⟨rfl, (F_low.out _ (D1.out _ (D2.out _ HS2.out)))⟩
 have hfqab : fewC a = true ∧ fewC b = true := by have h := Hqab.out; rwa [Bool.and_eq_true] at h
 have F_oka : Hid (∀ W, S2 W → CpOk W a) := by show ∀ W, _; exact fun W hW => ((F_ra.out _ (D1.out _ (D2.out _ hW)))).ok hfqab.1
 have Hma : Hid (a.mts.length ≤ 250) := (fewC_of hfqab.1).2.2.2.2.1
 have F_okb : Hid (∀ W, S2 W → CpOk W b) := by show ∀ W, _; exact fun W hW => ((F_rb.out _ (D1.out _ (D2.out _ hW)))).ok hfqab.2
 have Hmb : Hid (b.mts.length ≤ 250) := (fewC_of hfqab.2).2.2.2.2.1
 clear hfqab Hqab
 go_wp2_with (refine wpList_load_rowG rfl 31 _ rfl G_1 rfl 31 a.cells (0, 0) _ (F_A.out _ (D2.out _ HS2.out)) Tryz.underlying31 rfl (by kernel_rfl) ?_)
 refine (cpCheck_any a w_6 (F_oka.out _ HS2.out)).mono ?_
 rintro e w_7 ⟨rfl, bb⟩
 obtain ⟨za, hza⟩ : ∃ z, z = cpCheckZ a := ⟨_, rfl⟩
 rw [← hza]
 have hprev := st2.go HS2.out (bb)
 replace HS2 := Lib.hid hprev
 clear hprev bb
 by_cases h0 : za = 0
 rotate_left
 · have h1 : (za != 0) = true := by simpa using h0
   clear hza h0
   go_wp2_with fail
   go_ret
   exact ⟨rfl, (F_low.out _ (D1.out _ (D2.out _ HS2.out)))⟩
 subst h0
 have HOa : Hid (OkC a) := okC.1 hza.symm
 clear hza
 go_wp2_with (refine wpList_load_rowG rfl 31 _ rfl G_3 rfl 31 b.cells (0, 0) _ (F_B.out _ HS2.out) Tryz.underlying31 rfl (by kernel_rfl) ?_)
 refine (cpCheck_any b w_7 (F_okb.out _ HS2.out)).mono ?_
 rintro e w_8 ⟨rfl, bb⟩
 obtain ⟨zb, hzb⟩ : ∃ z, z = cpCheckZ b := ⟨_, rfl⟩
 rw [← hzb]
 have hprev := st2.go HS2.out (bb)
 replace HS2 := Lib.hid hprev
 clear hprev bb
 by_cases h0 : zb = 0
 rotate_left
 · have h1 : (zb != 0) = true := by simpa using h0
   clear hzb h0
   go_wp2_with fail
   go_ret
   exact ⟨rfl, (F_low.out _ (D1.out _ (D2.out _ HS2.out)))⟩
 subst h0
 have HOb : Hid (OkC b) := okC.1 hzb.symm
 clear hzb
 go_wp2_with (first | (refine wpList_load_row rfl 31 _ rfl G_1 rfl 31 a.cells (0, 0) _ (F_A.out _ (D2.out _ HS2.out)) Tryz.underlying31 rfl (by kernel_rfl) ?_) | (refine wpList_load_row rfl 31 _ rfl G_3 rfl 31 b.cells (0, 0) _ (F_B.out _ HS2.out) Tryz.underlying31 rfl (by kernel_rfl) ?_))
 refine (merge_any a b w_8 (F_oka.out _ HS2.out) (F_okb.out _ HS2.out)).mono ?_
 rintro e w_9 ⟨cx, rfl, hcx, hdx, bb, -⟩
 have Hdx := Lib.hid hdx
 clear hdx
 have hprev := st2.go HS2.out (bb)
 obtain ⟨S3, hSd⟩ : ∃ S : World → Prop, S = (fun W => S2 W ∧ CpOk W cx) := ⟨_, rfl⟩
 have st3 : St S3 := by rw [hSd]; infer_instance
 have D3 : Hid (∀ W, S3 W → S2 W) := by show ∀ W, _; rw [hSd]; exact fun W h => h.1
 have F_okcx : Hid (∀ W, S3 W → CpOk W cx) := by show ∀ W, _; rw [hSd]; exact fun W h => h.2
 have HS3 : Hid (S3 w_9) := by show S3 w_9; rw [hSd]; exact ⟨hprev, hcx⟩
 clear hSd
 clear hprev HS2 bb hcx
 go_wp2_with (refine at_alloc _ rfl ?_)
 refine Stop.to ?_
 refine wpList_alloc_gen rfl 31 rfl _ _ (zero_cp _) rfl ?_
 intro G_10 w_11 hG rG bG
 go_wp2_with (refine at_store _ _ _ rfl ?_)
 refine Stop.to ?_
 refine wpList_store_gen rfl 31 _ _ rfl G_10 cx.cells rfl rfl 31 _ rG (by kernel_rfl) rfl (by simp [CpV.cells, Value.oneCell']) ?_
 intro w_12 rH oH
 have bH : Below (w_9).heap.size w_9 w_12 := (bG.mono hG).trans (oH.below hG)
 have hprev := st3.go HS3.out (bH)
 obtain ⟨S4, hSd⟩ : ∃ S : World → Prop, S = (fun W => S3 W ∧ Row W G_10 31 cx.cells) := ⟨_, rfl⟩
 have st4 : St S4 := by rw [hSd]; infer_instance
 have D4 : Hid (∀ W, S4 W → S3 W) := by show ∀ W, _; rw [hSd]; exact fun W h => h.1
 have F_X : Hid (∀ W, S4 W → Row W G_10 31 cx.cells) := by show ∀ W, _; rw [hSd]; exact fun W h => h.2
 have HS4 : Hid (S4 w_12) := by show S4 w_12; rw [hSd]; exact ⟨hprev, rH⟩
 clear hSd
 clear hprev HS3 hG rG bG rH oH bH
 go_wp2_with (first | (refine wpList_load_row rfl 31 _ rfl G_3 rfl 31 b.cells (0, 0) _ (F_B.out _ (D3.out _ (D4.out _ HS4.out))) Tryz.underlying31 rfl (by kernel_rfl) ?_) | (refine wpList_load_row rfl 31 _ rfl G_1 rfl 31 a.cells (0, 0) _ (F_A.out _ (D2.out _ (D3.out _ (D4.out _ HS4.out)))) Tryz.underlying31 rfl (by kernel_rfl) ?_))
 refine (merge_any b a w_12 (F_okb.out _ (D3.out _ (D4.out _ HS4.out))) (F_oka.out _ (D3.out _ (D4.out _ HS4.out)))).mono ?_
 rintro e w_13 ⟨cy, rfl, hcx, hdx, bb, -⟩
 have Hdy := Lib.hid hdx
 clear hdx
 have hprev := st4.go HS4.out (bb)
 obtain ⟨S5, hSd⟩ : ∃ S : World → Prop, S = (fun W => S4 W ∧ CpOk W cy) := ⟨_, rfl⟩
 have st5 : St S5 := by rw [hSd]; infer_instance
 have D5 : Hid (∀ W, S5 W → S4 W) := by show ∀ W, _; rw [hSd]; exact fun W h => h.1
 have F_okcy : Hid (∀ W, S5 W → CpOk W cy) := by show ∀ W, _; rw [hSd]; exact fun W h => h.2
 have HS5 : Hid (S5 w_13) := by show S5 w_13; rw [hSd]; exact ⟨hprev, hcx⟩
 clear hSd
 clear hprev HS4 bb hcx
 go_wp2_with (refine at_alloc _ rfl ?_)
 refine Stop.to ?_
 refine wpList_alloc_gen rfl 31 rfl _ _ (zero_cp _) rfl ?_
 intro G_14 w_15 hG rG bG
 go_wp2_with (refine at_store _ _ _ rfl ?_)
 refine Stop.to ?_
 refine wpList_store_gen rfl 31 _ _ rfl G_14 cy.cells rfl rfl 31 _ rG (by kernel_rfl) rfl (by simp [CpV.cells, Value.oneCell']) ?_
 intro w_16 rH oH
 have bH : Below (w_13).heap.size w_13 w_16 := (bG.mono hG).trans (oH.below hG)
 have hprev := st5.go HS5.out (bH)
 obtain ⟨S6, hSd⟩ : ∃ S : World → Prop, S = (fun W => S5 W ∧ Row W G_14 31 cy.cells) := ⟨_, rfl⟩
 have st6 : St S6 := by rw [hSd]; infer_instance
 have D6 : Hid (∀ W, S6 W → S5 W) := by show ∀ W, _; rw [hSd]; exact fun W h => h.1
 have F_Y : Hid (∀ W, S6 W → Row W G_14 31 cy.cells) := by show ∀ W, _; rw [hSd]; exact fun W h => h.2
 have HS6 : Hid (S6 w_16) := by show S6 w_16; rw [hSd]; exact ⟨hprev, rH⟩
 clear hSd
 clear hprev HS5 hG rG bG rH oH bH
 go_wp2_with (first | (refine wpList_load_row rfl 31 _ rfl G_1 rfl 31 a.cells (0, 0) _ (F_A.out _ (D2.out _ (D3.out _ (D4.out _ (D5.out _ (D6.out _ HS6.out)))))) Tryz.underlying31 rfl (by kernel_rfl) ?_) | (refine wpList_load_row rfl 31 _ rfl G_1 rfl 31 a.cells (0, 0) _ (F_A.out _ (D2.out _ (D3.out _ (D4.out _ (D5.out _ (D6.out _ HS6.out)))))) Tryz.underlying31 rfl (by kernel_rfl) ?_))
 refine (merge_any a a w_16 (F_oka.out _ (D3.out _ (D4.out _ (D5.out _ (D6.out _ HS6.out))))) (F_oka.out _ (D3.out _ (D4.out _ (D5.out _ (D6.out _ HS6.out)))))).mono ?_
 rintro e w_17 ⟨co, rfl, hcx, hdx, bb, -⟩
 have Hdo := Lib.hid hdx
 clear hdx
 rw [mergeE_0.2 (Joins.self HOa.out)]
 have hprev := st6.go HS6.out (bb)
 obtain ⟨S7, hSd⟩ : ∃ S : World → Prop, S = (fun W => S6 W ∧ CpOk W co) := ⟨_, rfl⟩
 have st7 : St S7 := by rw [hSd]; infer_instance
 have D7 : Hid (∀ W, S7 W → S6 W) := by show ∀ W, _; rw [hSd]; exact fun W h => h.1
 have F_okco : Hid (∀ W, S7 W → CpOk W co) := by show ∀ W, _; rw [hSd]; exact fun W h => h.2
 have HS7 : Hid (S7 w_17) := by show S7 w_17; rw [hSd]; exact ⟨hprev, hcx⟩
 clear hSd
 clear hprev HS6 bb hcx
 go_wp2_with (refine at_alloc _ rfl ?_)
 refine Stop.to ?_
 refine wpList_alloc_gen rfl 31 rfl _ _ (zero_cp _) rfl ?_
 intro G_18 w_19 hG rG bG
 go_wp2_with (refine at_store _ _ _ rfl ?_)
 refine Stop.to ?_
 refine wpList_store_gen rfl 31 _ _ rfl G_18 co.cells rfl rfl 31 _ rG (by kernel_rfl) rfl (by simp [CpV.cells, Value.oneCell']) ?_
 intro w_20 rH oH
 have bH : Below (w_17).heap.size w_17 w_20 := (bG.mono hG).trans (oH.below hG)
 have hprev := st7.go HS7.out (bH)
 obtain ⟨S8, hSd⟩ : ∃ S : World → Prop, S = (fun W => S7 W ∧ Row W G_18 31 co.cells) := ⟨_, rfl⟩
 have st8 : St S8 := by rw [hSd]; infer_instance
 have D8 : Hid (∀ W, S8 W → S7 W) := by show ∀ W, _; rw [hSd]; exact fun W h => h.1
 have F_O : Hid (∀ W, S8 W → Row W G_18 31 co.cells) := by show ∀ W, _; rw [hSd]; exact fun W h => h.2
 have HS8 : Hid (S8 w_20) := by show S8 w_20; rw [hSd]; exact ⟨hprev, rH⟩
 clear hSd
 clear hprev HS7 hG rG bG rH oH bH
 have hcm := mergeE_comm HOa.out HOb.out
 rw [← hcm.1]
 obtain ⟨em, hem⟩ : ∃ em, em = mergeE a b := ⟨_, rfl⟩
 rw [← hem]
 rw [← hem] at hcm
 have h3 := hcm.2
 by_cases h0 : em = 0
 rotate_left
 · have h4 : em = 26 ∨ em = 21 := by omega
   clear hem hcm h3 h0
   rcases h4 with rfl | rfl
   · skip
     go_wp2_with fail
     go_ret
     exact ⟨rfl, (F_low.out _ (D1.out _ (D2.out _ (D3.out _ (D4.out _ (D5.out _ (D6.out _ (D7.out _ (D8.out _ HS8.out)))))))))⟩
   · skip
     go_wp2_with fail
     go_ret
     exact ⟨rfl, (F_low.out _ (D1.out _ (D2.out _ (D3.out _ (D4.out _ (D5.out _ (D6.out _ (D7.out _ (D8.out _ HS8.out)))))))))⟩
 subst h0
 have HJ : Hid (Joins a b) := mergeE_0.1 hem.symm
 clear hem hcm h3
 have Hx : Hid (cx.data = mergeD a.data b.data) := Hdx.out.trans (mgZ_0 HJ.out)
 have Hy : Hid (cy.data = mergeD a.data b.data) := Hdy.out.trans ((mgZ_0 HJ.out.symm).trans (mergeD_comm HJ.out).symm)
 have Ho : Hid (co.data = a.data) := Hdo.out.trans ((mgZ_0 (Joins.self HOa.out)).trans (mergeD_self HOa.out))
 have hlm : a.muts.length + b.muts.length ≤ 2000 := by have := Hma.out; have := Hmb.out; unfold CpV.muts; simp only [List.length_map]; omega
 have Hag := Lib.hid (again HJ.out Hx.out hlm)
 have HOx := Lib.hid (HJ.out.ok Hx.out hlm)
 clear hlm
 go_wp2_with (first | (refine wpList_load_row rfl 31 _ rfl G_10 rfl 31 cx.cells (0, 0) _ (F_X.out _ (D5.out _ (D6.out _ (D7.out _ (D8.out _ HS8.out))))) Tryz.underlying31 rfl (by kernel_rfl) ?_) | (refine wpList_load_row rfl 31 _ rfl G_3 rfl 31 b.cells (0, 0) _ (F_B.out _ (D3.out _ (D4.out _ (D5.out _ (D6.out _ (D7.out _ (D8.out _ HS8.out))))))) Tryz.underlying31 rfl (by kernel_rfl) ?_))
 refine (merge_any cx b w_20 (F_okcx.out _ (D4.out _ (D5.out _ (D6.out _ (D7.out _ (D8.out _ HS8.out)))))) (F_okb.out _ (D3.out _ (D4.out _ (D5.out _ (D6.out _ (D7.out _ (D8.out _ HS8.out)))))))).mono ?_
 rintro e w_21 ⟨cg, rfl, hcx, hdx, bb, -⟩
 rw [mgZ_0 Hag.out.1, Hag.out.2] at hdx
 have Hg := Lib.hid hdx
 clear hdx
 rw [mergeE_0.2 Hag.out.1]
 have hprev := st8.go HS8.out (bb)
 obtain ⟨S9, hSd⟩ : ∃ S : World → Prop, S = (fun W => S8 W ∧ CpOk W cg) := ⟨_, rfl⟩
 have st9 : St S9 := by rw [hSd]; infer_instance
 have D9 : Hid (∀ W, S9 W → S8 W) := by show ∀ W, _; rw [hSd]; exact fun W h => h.1
 have F_okcg : Hid (∀ W, S9 W → CpOk W cg) := by show ∀ W, _; rw [hSd]; exact fun W h => h.2
 have HS9 : Hid (S9 w_21) := by show S9 w_21; rw [hSd]; exact ⟨hprev, hcx⟩
 clear hSd
 clear hprev HS8 bb hcx
 go_wp2_with (refine at_alloc _ rfl ?_)
 refine Stop.to ?_
 refine wpList_alloc_gen rfl 31 rfl _ _ (zero_cp _) rfl ?_
 intro G_22 w_23 hG rG bG
 go_wp2_with (refine at_store _ _ _ rfl ?_)
 refine Stop.to ?_
 refine wpList_store_gen rfl 31 _ _ rfl G_22 cg.cells rfl rfl 31 _ rG (by kernel_rfl) rfl (by simp [CpV.cells, Value.oneCell']) ?_
 intro w_24 rH oH
 have bH : Below (w_21).heap.size w_21 w_24 := (bG.mono hG).trans (oH.below hG)
 have hprev := st9.go HS9.out (bH)
 obtain ⟨S10, hSd⟩ : ∃ S : World → Prop, S = (fun W => S9 W ∧ Row W G_22 31 cg.cells) := ⟨_, rfl⟩
 have st10 : St S10 := by rw [hSd]; infer_instance
 have D10 : Hid (∀ W, S10 W → S9 W) := by show ∀ W, _; rw [hSd]; exact fun W h => h.1
 have F_G : Hid (∀ W, S10 W → Row W G_22 31 cg.cells) := by show ∀ W, _; rw [hSd]; exact fun W h => h.2
 have HS10 : Hid (S10 w_24) := by show S10 w_24; rw [hSd]; exact ⟨hprev, rH⟩
 clear hSd
 clear hprev HS9 hG rG bG rH oH bH
 go_wp2_with (refine wpList_load_rowG rfl 31 _ rfl G_10 rfl 31 cx.cells (0, 0) _ (F_X.out _ (D5.out _ (D6.out _ (D7.out _ (D8.out _ (D9.out _ (D10.out _ HS10.out))))))) Tryz.underlying31 rfl (by kernel_rfl) ?_)
 refine (cpCheck_any cx w_24 (F_okcx.out _ (D4.out _ (D5.out _ (D6.out _ (D7.out _ (D8.out _ (D9.out _ (D10.out _ HS10.out))))))))).mono ?_
 rintro e w_25 ⟨rfl, bb⟩
 rw [okC.2 HOx.out]
 have hprev := st10.go HS10.out (bb)
 replace HS10 := Lib.hid hprev
 clear hprev bb
 go_wp2_with (first | (refine wpList_load_rowG rfl 31 _ rfl G_10 rfl 31 cx.cells (0, 0) _ (F_X.out _ (D5.out _ (D6.out _ (D7.out _ (D8.out _ (D9.out _ (D10.out _ HS10.out))))))) Tryz.underlying31 rfl (by kernel_rfl) ?_) | (refine wpList_load_rowG rfl 31 _ rfl G_14 rfl 31 cy.cells (0, 0) _ (F_Y.out _ (D7.out _ (D8.out _ (D9.out _ (D10.out _ HS10.out))))) Tryz.underlying31 rfl (by kernel_rfl) ?_))
 refine (cpSame_any cx cy w_25 (F_okcx.out _ (D4.out _ (D5.out _ (D6.out _ (D7.out _ (D8.out _ (D9.out _ (D10.out _ HS10.out)))))))) (F_okcy.out _ (D6.out _ (D7.out _ (D8.out _ (D9.out _ (D10.out _ HS10.out))))))).mono ?_
 rintro e w_26 ⟨rfl, bb⟩
 rw [show sameC cx cy = true from sameC_iff.2 (Hx.out.trans Hy.out.symm)]
 have hprev := st10.go HS10.out (bb)
 replace HS10 := Lib.hid hprev
 clear hprev bb
 go_wp2_with (first | (refine wpList_load_rowG rfl 31 _ rfl G_18 rfl 31 co.cells (0, 0) _ (F_O.out _ (D9.out _ (D10.out _ HS10.out))) Tryz.underlying31 rfl (by kernel_rfl) ?_) | (refine wpList_load_rowG rfl 31 _ rfl G_1 rfl 31 a.cells (0, 0) _ (F_A.out _ (D2.out _ (D3.out _ (D4.out _ (D5.out _ (D6.out _ (D7.out _ (D8.out _ (D9.out _ (D10.out _ HS10.out)))))))))) Tryz.underlying31 rfl (by kernel_rfl) ?_))
 refine (cpSame_any co a w_26 (F_okco.out _ (D8.out _ (D9.out _ (D10.out _ HS10.out)))) (F_oka.out _ (D3.out _ (D4.out _ (D5.out _ (D6.out _ (D7.out _ (D8.out _ (D9.out _ (D10.out _ HS10.out)))))))))).mono ?_
 rintro e w_27 ⟨rfl, bb⟩
 rw [show sameC co a = true from sameC_iff.2 Ho.out]
 have hprev := st10.go HS10.out (bb)
 replace HS10 := Lib.hid hprev
 clear hprev bb
 go_wp2_with (first | (refine wpList_load_rowG rfl 31 _ rfl G_22 rfl 31 cg.cells (0, 0) _ (F_G.out _ HS10.out) Tryz.underlying31 rfl (by kernel_rfl) ?_) | (refine wpList_load_rowG rfl 31 _ rfl G_10 rfl 31 cx.cells (0, 0) _ (F_X.out _ (D5.out _ (D6.out _ (D7.out _ (D8.out _ (D9.out _ (D10.out _ HS10.out))))))) Tryz.underlying31 rfl (by kernel_rfl) ?_))
 refine (cpSame_any cg cx w_27 (F_okcg.out _ (D10.out _ HS10.out)) (F_okcx.out _ (D4.out _ (D5.out _ (D6.out _ (D7.out _ (D8.out _ (D9.out _ (D10.out _ HS10.out))))))))).mono ?_
 rintro e w_28 ⟨rfl, bb⟩
 rw [show sameC cg cx = true from sameC_iff.2 Hg.out]
 have hprev := st10.go HS10.out (bb)
 replace HS10 := Lib.hid hprev
 clear hprev bb
 go_wp2_with fail
 go_ret
 exact ⟨rfl, (F_low.out _ (D1.out _ (D2.out _ (D3.out _ (D4.out _ (D5.out _ (D6.out _ (D7.out _ (D8.out _ (D9.out _ (D10.out _ HS10.out)))))))))))⟩
end Go.Proofs.YtcgglolckkeeiaaGreat
namespace Go.Proofs.YtcgglolckkeeiaaGreat
set_option linter.unusedVariables false
open Go.RowKit Go.Deep
set_option maxRecDepth 100000 in
set_option maxHeartbeats 16000000 in
theorem joinThree_walk (a b c : CpV) (w : World) (ha : CpRaw w a ∧ CpIn a) (hb : CpRaw w b ∧ CpIn b) (hc : CpRaw w c ∧ CpIn c) : Calls Tryz.prog 8 #[.agg a.cells, .agg b.cells, .agg c.cells] w fun e w' => e = .returned (.bool true) ∧ Below w.heap.size w w' := by
 go_enter Tryz.func8, Tryz.ntmps8
 obtain ⟨S0, hSd⟩ : ∃ S : World → Prop, S = (fun W => Below w.heap.size w W ∧ CpRaw W a ∧ CpRaw W b ∧ CpRaw W c) := ⟨_, rfl⟩
 have st0 : St S0 := by rw [hSd]; infer_instance
 have F_low : Hid (∀ W, S0 W → Below w.heap.size w W) := by show ∀ W, _; rw [hSd]; exact fun W h => h.1
 have F_ra : Hid (∀ W, S0 W → CpRaw W a) := by show ∀ W, _; rw [hSd]; exact fun W h => h.2.1
 have F_rb : Hid (∀ W, S0 W → CpRaw W b) := by show ∀ W, _; rw [hSd]; exact fun W h => h.2.2.1
 have F_rc : Hid (∀ W, S0 W → CpRaw W c) := by show ∀ W, _; rw [hSd]; exact fun W h => h.2.2.2
 have HS0 : Hid (S0 w) := by show S0 w; rw [hSd]; exact ⟨Below.refl _ _, ha.1, hb.1, hc.1⟩
 clear hSd
 have HIa : Hid (CpIn a) := ha.2
 have HIb : Hid (CpIn b) := hb.2
 have HIc : Hid (CpIn c) := hc.2
 clear ha hb hc
 go_wp2_with (refine at_box _ _ rfl ?_)
 refine Stop.to ?_
 refine wpList_box_gen rfl 31 _ rfl a.cells rfl ?_
 intro G_1 w_2 hG rG bG
 have hprev := st0.go HS0.out (bG.mono hG)
 obtain ⟨S1, hSd⟩ : ∃ S : World → Prop, S = (fun W => S0 W ∧ Row W G_1 31 a.cells) := ⟨_, rfl⟩
 have st1 : St S1 := by rw [hSd]; infer_instance
 have D1 : Hid (∀ W, S1 W → S0 W) := by show ∀ W, _; rw [hSd]; exact fun W h => h.1
 have F_A : Hid (∀ W, S1 W → Row W G_1 31 a.cells) := by show ∀ W, _; rw [hSd]; exact fun W h => h.2
 have HS1 : Hid (S1 w_2) := by show S1 w_2; rw [hSd]; exact ⟨hprev, rG⟩
 clear hSd
 clear hprev HS0 hG rG bG
 go_wp2_with (refine at_box _ _ rfl ?_)
 refine Stop.to ?_
 refine wpList_box_gen rfl 31 _ rfl b.cells rfl ?_
 intro G_3 w_4 hG rG bG
 have hprev := st1.go HS1.out (bG.mono hG)
 obtain ⟨S2, hSd⟩ : ∃ S : World → Prop, S = (fun W => S1 W ∧ Row W G_3 31 b.cells) := ⟨_, rfl⟩
 have st2 : St S2 := by rw [hSd]; infer_instance
 have D2 : Hid (∀ W, S2 W → S1 W) := by show ∀ W, _; rw [hSd]; exact fun W h => h.1
 have F_B : Hid (∀ W, S2 W → Row W G_3 31 b.cells) := by show ∀ W, _; rw [hSd]; exact fun W h => h.2
 have HS2 : Hid (S2 w_4) := by show S2 w_4; rw [hSd]; exact ⟨hprev, rG⟩
 clear hSd
 clear hprev HS1 hG rG bG
 go_wp2_with (refine at_box _ _ rfl ?_)
 refine Stop.to ?_
 refine wpList_box_gen rfl 31 _ rfl c.cells rfl ?_
 intro G_5 w_6 hG rG bG
 have hprev := st2.go HS2.out (bG.mono hG)
 obtain ⟨S3, hSd⟩ : ∃ S : World → Prop, S = (fun W => S2 W ∧ Row W G_5 31 c.cells) := ⟨_, rfl⟩
 have st3 : St S3 := by rw [hSd]; infer_instance
 have D3 : Hid (∀ W, S3 W → S2 W) := by show ∀ W, _; rw [hSd]; exact fun W h => h.1
 have F_C : Hid (∀ W, S3 W → Row W G_5 31 c.cells) := by show ∀ W, _; rw [hSd]; exact fun W h => h.2
 have HS3 : Hid (S3 w_6) := by show S3 w_6; rw [hSd]; exact ⟨hprev, rG⟩
 clear hSd
 clear hprev HS2 hG rG bG
 go_wp2_with fail
 refine (works25_any w_6).mono ?_
 rintro e w_7 ⟨rfl, bb⟩
 have hprev := st3.go HS3.out (bb)
 replace HS3 := Lib.hid hprev
 clear hprev bb
 go_wp2_with (first | (refine wpList_load_rowG rfl 31 _ rfl G_1 rfl 31 a.cells (0, 0) _ (F_A.out _ (D2.out _ (D3.out _ HS3.out))) Tryz.underlying31 rfl (by kernel_rfl) ?_) | (refine wpList_load_rowG rfl 31 _ rfl G_3 rfl 31 b.cells (0, 0) _ (F_B.out _ (D3.out _ HS3.out)) Tryz.underlying31 rfl (by kernel_rfl) ?_) | (refine wpList_load_row rfl 31 _ rfl G_1 rfl 31 a.cells (0, 0) _ (F_A.out _ (D2.out _ (D3.out _ HS3.out))) Tryz.underlying31 rfl (by kernel_rfl) ?_) | (refine wpList_load_row rfl 31 _ rfl G_3 rfl 31 b.cells (0, 0) _ (F_B.out _ (D3.out _ HS3.out)) Tryz.underlying31 rfl (by kernel_rfl) ?_))
 refine (few25_any a b w_7 (F_ra.out _ (D1.out _ (D2.out _ (D3.out _ HS3.out)))) (F_rb.out _ (D1.out _ (D2.out _ (D3.out _ HS3.out))))).mono ?_
 rintro e w_8 ⟨rfl, bb⟩
 have hprev := st3.go HS3.out (bb)
 replace HS3 := Lib.hid hprev
 clear hprev bb
 generalize hqab : (fewC a && fewC b) = qab
 have Hqab := Lib.hid hqab
 clear hqab
 cases qab
 · skip
   go_wp2_with fail
   go_ret
   exact ⟨rfl, (F_low.out _ (D1.out _ (D2.out _ (D3.out _ HS3.out))))⟩
 have hfqab : fewC a = true ∧ fewC b = true := by have h := Hqab.out; rwa [Bool.and_eq_true] at h
 have F_oka : Hid (∀ W, S3 W → CpOk W a) := by show ∀ W, _; exact fun W hW => ((F_ra.out _ (D1.out _ (D2.out _ (D3.out _ hW))))).ok hfqab.1
 have Hma : Hid (a.mts.length ≤ 250) := (fewC_of hfqab.1).2.2.2.2.1
 have F_okb : Hid (∀ W, S3 W → CpOk W b) := by show ∀ W, _; exact fun W hW => ((F_rb.out _ (D1.out _ (D2.out _ (D3.out _ hW))))).ok hfqab.2
 have Hmb : Hid (b.mts.length ≤ 250) := (fewC_of hfqab.2).2.2.2.2.1
 clear hfqab Hqab
 go_wp2_with (first | (refine wpList_load_rowG rfl 31 _ rfl G_3 rfl 31 b.cells (0, 0) _ (F_B.out _ (D3.out _ HS3.out)) Tryz.underlying31 rfl (by kernel_rfl) ?_) | (refine wpList_load_rowG rfl 31 _ rfl G_5 rfl 31 c.cells (0, 0) _ (F_C.out _ HS3.out) Tryz.underlying31 rfl (by kernel_rfl) ?_) | (refine wpList_load_row rfl 31 _ rfl G_3 rfl 31 b.cells (0, 0) _ (F_B.out _ (D3.out _ HS3.out)) Tryz.underlying31 rfl (by kernel_rfl) ?_) | (refine wpList_load_row rfl 31 _ rfl G_5 rfl 31 c.cells (0, 0) _ (F_C.out _ HS3.out) Tryz.underlying31 rfl (by kernel_rfl) ?_))
 refine (few25_any b c w_8 (F_rb.out _ (D1.out _ (D2.out _ (D3.out _ HS3.out)))) (F_rc.out _ (D1.out _ (D2.out _ (D3.out _ HS3.out))))).mono ?_
 rintro e w_9 ⟨rfl, bb⟩
 have hprev := st3.go HS3.out (bb)
 replace HS3 := Lib.hid hprev
 clear hprev bb
 generalize hqbc : (fewC b && fewC c) = qbc
 have Hqbc := Lib.hid hqbc
 clear hqbc
 cases qbc
 · skip
   go_wp2_with fail
   go_ret
   exact ⟨rfl, (F_low.out _ (D1.out _ (D2.out _ (D3.out _ HS3.out))))⟩
 have hfqbc : fewC b = true ∧ fewC c = true := by have h := Hqbc.out; rwa [Bool.and_eq_true] at h
 have F_okc : Hid (∀ W, S3 W → CpOk W c) := by show ∀ W, _; exact fun W hW => ((F_rc.out _ (D1.out _ (D2.out _ (D3.out _ hW))))).ok hfqbc.2
 have Hmc : Hid (c.mts.length ≤ 250) := (fewC_of hfqbc.2).2.2.2.2.1
 clear hfqbc Hqbc
 go_wp2_with (first | (refine wpList_load_row rfl 31 _ rfl G_1 rfl 31 a.cells (0, 0) _ (F_A.out _ (D2.out _ (D3.out _ HS3.out))) Tryz.underlying31 rfl (by kernel_rfl) ?_) | (refine wpList_load_row rfl 31 _ rfl G_3 rfl 31 b.cells (0, 0) _ (F_B.out _ (D3.out _ HS3.out)) Tryz.underlying31 rfl (by kernel_rfl) ?_))
 refine (merge_any a b w_9 (F_oka.out _ HS3.out) (F_okb.out _ HS3.out)).mono ?_
 rintro e w_10 ⟨cx, rfl, hcx, hdx, bb, -⟩
 have Hdx := Lib.hid hdx
 clear hdx
 have hprev := st3.go HS3.out (bb)
 obtain ⟨S4, hSd⟩ : ∃ S : World → Prop, S = (fun W => S3 W ∧ CpOk W cx) := ⟨_, rfl⟩
 have st4 : St S4 := by rw [hSd]; infer_instance
 have D4 : Hid (∀ W, S4 W → S3 W) := by show ∀ W, _; rw [hSd]; exact fun W h => h.1
 have F_okcx : Hid (∀ W, S4 W → CpOk W cx) := by show ∀ W, _; rw [hSd]; exact fun W h => h.2
 have HS4 : Hid (S4 w_10) := by show S4 w_10; rw [hSd]; exact ⟨hprev, hcx⟩
 clear hSd
 clear hprev HS3 bb hcx
 go_wp2_with (refine at_alloc _ rfl ?_)
 refine Stop.to ?_
 refine wpList_alloc_gen rfl 31 rfl _ _ (zero_cp _) rfl ?_
 intro G_11 w_12 hG rG bG
 go_wp2_with (refine at_store _ _ _ rfl ?_)
 refine Stop.to ?_
 refine wpList_store_gen rfl 31 _ _ rfl G_11 cx.cells rfl rfl 31 _ rG (by kernel_rfl) rfl (by simp [CpV.cells, Value.oneCell']) ?_
 intro w_13 rH oH
 have bH : Below (w_10).heap.size w_10 w_13 := (bG.mono hG).trans (oH.below hG)
 have hprev := st4.go HS4.out (bH)
 obtain ⟨S5, hSd⟩ : ∃ S : World → Prop, S = (fun W => S4 W ∧ Row W G_11 31 cx.cells) := ⟨_, rfl⟩
 have st5 : St S5 := by rw [hSd]; infer_instance
 have D5 : Hid (∀ W, S5 W → S4 W) := by show ∀ W, _; rw [hSd]; exact fun W h => h.1
 have F_X : Hid (∀ W, S5 W → Row W G_11 31 cx.cells) := by show ∀ W, _; rw [hSd]; exact fun W h => h.2
 have HS5 : Hid (S5 w_13) := by show S5 w_13; rw [hSd]; exact ⟨hprev, rH⟩
 clear hSd
 clear hprev HS4 hG rG bG rH oH bH
 go_wp2_with (first | (refine wpList_load_row rfl 31 _ rfl G_3 rfl 31 b.cells (0, 0) _ (F_B.out _ (D3.out _ (D4.out _ (D5.out _ HS5.out)))) Tryz.underlying31 rfl (by kernel_rfl) ?_) | (refine wpList_load_row rfl 31 _ rfl G_5 rfl 31 c.cells (0, 0) _ (F_C.out _ (D4.out _ (D5.out _ HS5.out))) Tryz.underlying31 rfl (by kernel_rfl) ?_))
 refine (merge_any b c w_13 (F_okb.out _ (D4.out _ (D5.out _ HS5.out))) (F_okc.out _ (D4.out _ (D5.out _ HS5.out)))).mono ?_
 rintro e w_14 ⟨cy, rfl, hcx, hdx, bb, -⟩
 have Hdy := Lib.hid hdx
 clear hdx
 have hprev := st5.go HS5.out (bb)
 obtain ⟨S6, hSd⟩ : ∃ S : World → Prop, S = (fun W => S5 W ∧ CpOk W cy) := ⟨_, rfl⟩
 have st6 : St S6 := by rw [hSd]; infer_instance
 have D6 : Hid (∀ W, S6 W → S5 W) := by show ∀ W, _; rw [hSd]; exact fun W h => h.1
 have F_okcy : Hid (∀ W, S6 W → CpOk W cy) := by show ∀ W, _; rw [hSd]; exact fun W h => h.2
 have HS6 : Hid (S6 w_14) := by show S6 w_14; rw [hSd]; exact ⟨hprev, hcx⟩
 clear hSd
 clear hprev HS5 bb hcx
 go_wp2_with (refine at_alloc _ rfl ?_)
 refine Stop.to ?_
 refine wpList_alloc_gen rfl 31 rfl _ _ (zero_cp _) rfl ?_
 intro G_15 w_16 hG rG bG
 go_wp2_with (refine at_store _ _ _ rfl ?_)
 refine Stop.to ?_
 refine wpList_store_gen rfl 31 _ _ rfl G_15 cy.cells rfl rfl 31 _ rG (by kernel_rfl) rfl (by simp [CpV.cells, Value.oneCell']) ?_
 intro w_17 rH oH
 have bH : Below (w_14).heap.size w_14 w_17 := (bG.mono hG).trans (oH.below hG)
 have hprev := st6.go HS6.out (bH)
 obtain ⟨S7, hSd⟩ : ∃ S : World → Prop, S = (fun W => S6 W ∧ Row W G_15 31 cy.cells) := ⟨_, rfl⟩
 have st7 : St S7 := by rw [hSd]; infer_instance
 have D7 : Hid (∀ W, S7 W → S6 W) := by show ∀ W, _; rw [hSd]; exact fun W h => h.1
 have F_Y : Hid (∀ W, S7 W → Row W G_15 31 cy.cells) := by show ∀ W, _; rw [hSd]; exact fun W h => h.2
 have HS7 : Hid (S7 w_17) := by show S7 w_17; rw [hSd]; exact ⟨hprev, rH⟩
 clear hSd
 clear hprev HS6 hG rG bG rH oH bH
 obtain ⟨ze, hze⟩ : ∃ z, z = mergeE a b := ⟨_, rfl⟩
 rw [← hze]
 obtain ⟨zf, hzf⟩ : ∃ z, z = mergeE b c := ⟨_, rfl⟩
 rw [← hzf]
 by_cases h0 : ze = 0
 rotate_left
 · have h1 : (ze != 0) = true := by simpa using h0
   clear hze hzf h0
   go_wp2_with fail
   go_ret
   exact ⟨rfl, (F_low.out _ (D1.out _ (D2.out _ (D3.out _ (D4.out _ (D5.out _ (D6.out _ (D7.out _ HS7.out))))))))⟩
 subst h0
 have HJ : Hid (Joins a b) := mergeE_0.1 hze.symm
 clear hze
 by_cases h0 : zf = 0
 rotate_left
 · have h1 : (zf != 0) = true := by simpa using h0
   clear hzf h0
   go_wp2_with fail
   go_ret
   exact ⟨rfl, (F_low.out _ (D1.out _ (D2.out _ (D3.out _ (D4.out _ (D5.out _ (D6.out _ (D7.out _ HS7.out))))))))⟩
 subst h0
 have HK : Hid (Joins b c) := mergeE_0.1 hzf.symm
 clear hzf
 have Hth := Lib.hid (three HJ.out HK.out (Hdx.out.trans (mgZ_0 HJ.out)) (Hdy.out.trans (mgZ_0 HK.out)) (by have := Hma.out; have := Hmb.out; have := Hmc.out; unfold CpV.muts; simp only [List.length_map]; omega))
 go_wp2_with (first | (refine wpList_load_row rfl 31 _ rfl G_11 rfl 31 cx.cells (0, 0) _ (F_X.out _ (D6.out _ (D7.out _ HS7.out))) Tryz.underlying31 rfl (by kernel_rfl) ?_) | (refine wpList_load_row rfl 31 _ rfl G_5 rfl 31 c.cells (0, 0) _ (F_C.out _ (D4.out _ (D5.out _ (D6.out _ (D7.out _ HS7.out))))) Tryz.underlying31 rfl (by kernel_rfl) ?_))
 refine (merge_any cx c w_17 (F_okcx.out _ (D5.out _ (D6.out _ (D7.out _ HS7.out)))) (F_okc.out _ (D4.out _ (D5.out _ (D6.out _ (D7.out _ HS7.out)))))).mono ?_
 rintro e w_18 ⟨cp, rfl, hcx, hdx, bb, -⟩
 have Hp := Lib.hid hdx
 clear hdx
 have hprev := st7.go HS7.out (bb)
 obtain ⟨S8, hSd⟩ : ∃ S : World → Prop, S = (fun W => S7 W ∧ CpOk W cp) := ⟨_, rfl⟩
 have st8 : St S8 := by rw [hSd]; infer_instance
 have D8 : Hid (∀ W, S8 W → S7 W) := by show ∀ W, _; rw [hSd]; exact fun W h => h.1
 have F_okcp : Hid (∀ W, S8 W → CpOk W cp) := by show ∀ W, _; rw [hSd]; exact fun W h => h.2
 have HS8 : Hid (S8 w_18) := by show S8 w_18; rw [hSd]; exact ⟨hprev, hcx⟩
 clear hSd
 clear hprev HS7 bb hcx
 go_wp2_with (refine at_alloc _ rfl ?_)
 refine Stop.to ?_
 refine wpList_alloc_gen rfl 31 rfl _ _ (zero_cp _) rfl ?_
 intro G_19 w_20 hG rG bG
 go_wp2_with (refine at_store _ _ _ rfl ?_)
 refine Stop.to ?_
 refine wpList_store_gen rfl 31 _ _ rfl G_19 cp.cells rfl rfl 31 _ rG (by kernel_rfl) rfl (by simp [CpV.cells, Value.oneCell']) ?_
 intro w_21 rH oH
 have bH : Below (w_18).heap.size w_18 w_21 := (bG.mono hG).trans (oH.below hG)
 have hprev := st8.go HS8.out (bH)
 obtain ⟨S9, hSd⟩ : ∃ S : World → Prop, S = (fun W => S8 W ∧ Row W G_19 31 cp.cells) := ⟨_, rfl⟩
 have st9 : St S9 := by rw [hSd]; infer_instance
 have D9 : Hid (∀ W, S9 W → S8 W) := by show ∀ W, _; rw [hSd]; exact fun W h => h.1
 have F_P : Hid (∀ W, S9 W → Row W G_19 31 cp.cells) := by show ∀ W, _; rw [hSd]; exact fun W h => h.2
 have HS9 : Hid (S9 w_21) := by show S9 w_21; rw [hSd]; exact ⟨hprev, rH⟩
 clear hSd
 clear hprev HS8 hG rG bG rH oH bH
 go_wp2_with (first | (refine wpList_load_row rfl 31 _ rfl G_1 rfl 31 a.cells (0, 0) _ (F_A.out _ (D2.out _ (D3.out _ (D4.out _ (D5.out _ (D6.out _ (D7.out _ (D8.out _ (D9.out _ HS9.out))))))))) Tryz.underlying31 rfl (by kernel_rfl) ?_) | (refine wpList_load_row rfl 31 _ rfl G_15 rfl 31 cy.cells (0, 0) _ (F_Y.out _ (D8.out _ (D9.out _ HS9.out))) Tryz.underlying31 rfl (by kernel_rfl) ?_))
 refine (merge_any a cy w_21 (F_oka.out _ (D4.out _ (D5.out _ (D6.out _ (D7.out _ (D8.out _ (D9.out _ HS9.out))))))) (F_okcy.out _ (D7.out _ (D8.out _ (D9.out _ HS9.out))))).mono ?_
 rintro e w_22 ⟨cq, rfl, hcx, hdx, bb, -⟩
 have Hq : Hid (sameC cp cq = true) := sameC_iff.2 (Hp.out.trans (Hth.out.2.trans hdx.symm))
 clear hdx
 rw [← Hth.out.1]
 generalize mergeE cx c = em
 have hprev := st9.go HS9.out (bb)
 obtain ⟨S10, hSd⟩ : ∃ S : World → Prop, S = (fun W => S9 W ∧ CpOk W cq) := ⟨_, rfl⟩
 have st10 : St S10 := by rw [hSd]; infer_instance
 have D10 : Hid (∀ W, S10 W → S9 W) := by show ∀ W, _; rw [hSd]; exact fun W h => h.1
 have F_okcq : Hid (∀ W, S10 W → CpOk W cq) := by show ∀ W, _; rw [hSd]; exact fun W h => h.2
 have HS10 : Hid (S10 w_22) := by show S10 w_22; rw [hSd]; exact ⟨hprev, hcx⟩
 clear hSd
 clear hprev HS9 bb hcx
 go_wp2_with (refine at_alloc _ rfl ?_)
 refine Stop.to ?_
 refine wpList_alloc_gen rfl 31 rfl _ _ (zero_cp _) rfl ?_
 intro G_23 w_24 hG rG bG
 go_wp2_with (refine at_store _ _ _ rfl ?_)
 refine Stop.to ?_
 refine wpList_store_gen rfl 31 _ _ rfl G_23 cq.cells rfl rfl 31 _ rG (by kernel_rfl) rfl (by simp [CpV.cells, Value.oneCell']) ?_
 intro w_25 rH oH
 have bH : Below (w_22).heap.size w_22 w_25 := (bG.mono hG).trans (oH.below hG)
 have hprev := st10.go HS10.out (bH)
 obtain ⟨S11, hSd⟩ : ∃ S : World → Prop, S = (fun W => S10 W ∧ Row W G_23 31 cq.cells) := ⟨_, rfl⟩
 have st11 : St S11 := by rw [hSd]; infer_instance
 have D11 : Hid (∀ W, S11 W → S10 W) := by show ∀ W, _; rw [hSd]; exact fun W h => h.1
 have F_Q : Hid (∀ W, S11 W → Row W G_23 31 cq.cells) := by show ∀ W, _; rw [hSd]; exact fun W h => h.2
 have HS11 : Hid (S11 w_25) := by show S11 w_25; rw [hSd]; exact ⟨hprev, rH⟩
 clear hSd
 clear hprev HS10 hG rG bG rH oH bH
 go_wp2_with (first | (refine wpList_load_rowG rfl 31 _ rfl G_19 rfl 31 cp.cells (0, 0) _ (F_P.out _ (D10.out _ (D11.out _ HS11.out))) Tryz.underlying31 rfl (by kernel_rfl) ?_) | (refine wpList_load_rowG rfl 31 _ rfl G_23 rfl 31 cq.cells (0, 0) _ (F_Q.out _ HS11.out) Tryz.underlying31 rfl (by kernel_rfl) ?_))
 refine (cpSame_any cp cq w_25 (F_okcp.out _ (D9.out _ (D10.out _ (D11.out _ HS11.out)))) (F_okcq.out _ (D11.out _ HS11.out))).mono ?_
 rintro e w_26 ⟨rfl, bb⟩
 rw [show sameC cp cq = true from Hq.out]
 have hprev := st11.go HS11.out (bb)
 replace HS11 := Lib.hid hprev
 clear hprev bb
 go_wp2_with fail
 go_ret
 exact ⟨rfl, (F_low.out _ (D1.out _ (D2.out _ (D3.out _ (D4.out _ (D5.out _ (D6.out _ (D7.out _ (D8.out _ (D9.out _ (D10.out _ (D11.out _ HS11.out))))))))))))⟩
end Go.Proofs.YtcgglolckkeeiaaGreat
namespace Go.Proofs.YtcgglolckkeeiaaGreat
set_option linter.unusedVariables false
open Go.RowKit Go.Deep
def InZ (d : Dl) (l : List Mt) (p : Int × Int) : Prop := (p = (0, 0) ∧ ∀ m ∈ l, cmpD m.d d ≠ 0) ∨ (p.1 = 1 ∧ ∃ m ∈ l, cmpD m.d d = 0 ∧ p.2 = m.verdict)
theorem InZ.nil (d : Dl) : InZ d [] (0, 0) := .inl ⟨rfl, fun m hm => by simp at hm⟩
theorem InZ.yes {d : Dl} {pre l : List Mt} {k : Nat} {m : Mt} (hm : l[k]? = some m) (hd : cmpD m.d d = 0) : InZ d (pre ++ l.take (k + 1)) (1, m.verdict) :=
 .inr ⟨rfl, m, by rw [List.take_add_one, hm]; simp, hd, rfl⟩
theorem InZ.no {d : Dl} {pre l : List Mt} {k : Nat} {m : Mt} {p : Int × Int} (h : InZ d (pre ++ l.take k) p) (hm : l[k]? = some m) (hd : ¬ cmpD m.d d = 0) : InZ d (pre ++ l.take (k + 1)) p := by
 rw [List.take_add_one, hm, ← List.append_assoc]
 rcases h with ⟨h1, h2⟩ | ⟨h1, x, hx, h2⟩
 · refine .inl ⟨h1, fun y hy => ?_⟩
   rcases List.mem_append.1 hy with hy | hy
   · exact h2 y hy
   · simp only [Option.toList_some, List.mem_singleton] at hy
     rw [hy]; exact hd
 · exact .inr ⟨h1, x, List.mem_append.2 (.inl hx), h2⟩
theorem InZ.full {d : Dl} {pre l : List Mt} {p : Int × Int} {n : Nat} (h : InZ d (pre ++ l.take n) p) (hn : l.length ≤ n) : InZ d (pre ++ l) p := by rwa [List.take_of_length_le hn] at h
def CnZ {α : Type} (g : α → Dl) (d : Dl) (l : List α) (c : Int) : Prop := (c = 0 ∧ ∀ m ∈ l, cmpD (g m) d ≠ 0) ∨ (c = 1 ∧ ∃ m ∈ l, cmpD (g m) d = 0)
theorem CnZ.nil {α : Type} (g : α → Dl) (d : Dl) : CnZ g d [] 0 := .inl ⟨rfl, fun m hm => by simp at hm⟩
theorem CnZ.yes {α : Type} {g : α → Dl} {d : Dl} {l : List α} (hl : l.Pairwise fun x y => cmpD (g x) (g y) < 0) {k : Nat} {m : α} {c : Int} (h : CnZ g d (l.take k) c) (hm : l[k]? = some m) (hd : cmpD (g m) d = 0) : CnZ g d (l.take (k + 1)) (c + 1) := by
 rcases h with ⟨rfl, _⟩ | ⟨_, x, hx, h2⟩
 · exact .inr ⟨rfl, m, by rw [List.take_add_one, hm]; simp, hd⟩
 · obtain ⟨j, hj, e⟩ := List.mem_iff_getElem.1 hx
   rw [List.length_take] at hj
   rw [List.getElem_take] at e
   have h3 := pw_get hl (i := j) (j := k) (x := x) (y := m) (by rw [← e]; exact List.getElem?_eq_getElem _) hm (by omega)
   rw [cmpD_eq.1 h2, cmpD_eq.1 hd, cmpD_self] at h3
   omega
theorem CnZ.no {α : Type} {g : α → Dl} {d : Dl} {l : List α} {k : Nat} {m : α} {c : Int} (h : CnZ g d (l.take k) c) (hm : l[k]? = some m) (hd : ¬ cmpD (g m) d = 0) : CnZ g d (l.take (k + 1)) c := by
 rw [List.take_add_one, hm]
 rcases h with ⟨h1, h2⟩ | ⟨h1, x, hx, h2⟩
 · refine .inl ⟨h1, fun y hy => ?_⟩
   rcases List.mem_append.1 hy with hy | hy
   · exact h2 y hy
   · simp only [Option.toList_some, List.mem_singleton] at hy
     rw [hy]; exact hd
 · exact .inr ⟨h1, x, List.mem_append.2 (.inl hx), h2⟩
theorem CnZ.full {α : Type} {g : α → Dl} {d : Dl} {l : List α} {c : Int} {n : Nat} (h : CnZ g d (l.take n) c) (hn : l.length ≤ n) : CnZ g d l c := by rwa [List.take_of_length_le hn] at h
theorem Joins.union {a b x : CpV} (h : Joins a b) (e : x.data = mergeD a.data b.data) {d : Dl} {p : Int × Int} {c : Int} (hp : InZ d (a.muts ++ b.muts) p) (hc : CnZ Mt.d d x.muts c) : c = p.1 := by
 have e6 : x.muts = mergeM a.muts b.muts := congrArg Cd.muts e
 have hm := agreeM_mem h.ha.rise h.hb.rise h.agree
 rcases hp with ⟨rfl, h2⟩ | ⟨h1, m, hmm, h2, _⟩
 · rcases hc with ⟨rfl, _⟩ | ⟨_, y, hy, h3⟩
   · rfl
   · rw [e6, hm] at hy
     exact absurd h3 (h2 y (List.mem_append.2 hy))
 · rcases hc with ⟨_, h3⟩ | ⟨rfl, _⟩
   · exact absurd h2 (h3 m (by rw [e6, hm]; exact List.mem_append.1 hmm))
   · exact h1.symm
theorem Joins.verdict {a b x : CpV} (h : Joins a b) (e : x.data = mergeD a.data b.data) {d : Dl} {p : Int × Int} (hp : InZ d (a.muts ++ b.muts) p) {y : Mt} (hy : y ∈ x.muts) (hd : cmpD y.d d = 0) : y.verdict = p.2 := by
 have e6 : x.muts = mergeM a.muts b.muts := congrArg Cd.muts e
 have hm := agreeM_mem h.ha.rise h.hb.rise h.agree
 rcases hp with ⟨_, h2⟩ | ⟨_, m, hmm, h2, h3⟩
 · rw [e6, hm] at hy
   exact absurd hd (h2 y (List.mem_append.2 hy))
 · have hmx : m ∈ mergeM a.muts b.muts := (hm m).2 (List.mem_append.1 hmm)
   rw [e6] at hy
   have := riseM_uniq (mergeM_rise h.ha.rise h.hb.rise) hy hmx (by rw [cmpD_eq.1 h2, cmpD_eq.1 hd, cmpD_self])
   rw [this]; exact h3.symm
end Go.Proofs.YtcgglolckkeeiaaGreat
namespace Go.Proofs.YtcgglolckkeeiaaGreat
set_option linter.unusedVariables false
open Go.RowKit Go.Deep
theorem eql_sc (a b c : Int) (W : World) : (binOp .eql 29 (.agg #[.int .i64 a, .int .i64 b, .int .i64 c]) (.agg #[.int .i64 a, .int .i64 b, .int .i64 c])).run Tryz.prog W = .ok (.bool true) W := by
 simp [go_sem]
end Go.Proofs.YtcgglolckkeeiaaGreat
