/- Lemmas for CnAll. -/
import Derived.Test.YtcgglolckkeeiaaGreatZn29
namespace Go.Proofs.YtcgglolckkeeiaaGreat
set_option linter.unusedVariables false
set_option linter.unusedSimpArgs false
open Go.RowKit Go.Deep
set_option maxRecDepth 100000 in
set_option maxHeartbeats 16000000 in
theorem campaignLess_walk (c : CpV) (at_ : Int) (hat : InI at_) (w : World) (hc : CpRaw w c ∧ CpIn c) : Calls Tryz.prog 14 #[.agg c.cells, .int .i64 at_] w fun e w' => e = .returned (.bool true) ∧ Below w.heap.size w w' := by
 go_enter Tryz.func14, Tryz.ntmps14
 obtain ⟨S0, hSd⟩ : ∃ S : World → Prop, S = (fun W => Below w.heap.size w W ∧ CpRaw W c) := ⟨_, rfl⟩
 have st0 : St S0 := by rw [hSd]; infer_instance
 have F_low : Hid (∀ W, S0 W → Below w.heap.size w W) := by show ∀ W, _; rw [hSd]; exact fun W h => h.1
 have F_rc : Hid (∀ W, S0 W → CpRaw W c) := by show ∀ W, _; rw [hSd]; exact fun W h => h.2
 have HS0 : Hid (S0 w) := by show S0 w; rw [hSd]; exact ⟨Below.refl _ _, hc.1⟩
 clear hSd
 have HIc : Hid (CpIn c) := hc.2
 clear hc
 go_wp2_with (refine at_box _ _ rfl ?_)
 refine Stop.to ?_
 refine wpList_box_gen rfl 31 _ rfl c.cells rfl ?_
 intro G_1 w_2 hG rG bG
 have hprev := st0.go HS0.out (bG.mono hG)
 obtain ⟨S1, hSd⟩ : ∃ S : World → Prop, S = (fun W => S0 W ∧ Row W G_1 31 c.cells) := ⟨_, rfl⟩
 have st1 : St S1 := by rw [hSd]; infer_instance
 have D1 : Hid (∀ W, S1 W → S0 W) := by show ∀ W, _; rw [hSd]; exact fun W h => h.1
 have F_C : Hid (∀ W, S1 W → Row W G_1 31 c.cells) := by show ∀ W, _; rw [hSd]; exact fun W h => h.2
 have HS1 : Hid (S1 w_2) := by show S1 w_2; rw [hSd]; exact ⟨hprev, rG⟩
 clear hSd
 clear hprev HS0 hG rG bG
 go_wp2_with fail
 refine (works21_any w_2).mono ?_
 rintro e w_3 ⟨rfl, bb⟩
 have hprev := st1.go HS1.out (bb)
 replace HS1 := Lib.hid hprev
 clear hprev bb
 go_wp2_with (refine wpList_load_row rfl 31 _ rfl G_1 rfl 31 c.cells (0, 0) _ (F_C.out _ HS1.out) Tryz.underlying31 rfl (by kernel_rfl) ?_)
 refine (fewC_any c w_3 (F_rc.out _ (D1.out _ HS1.out))).mono ?_
 rintro e w_4 ⟨rfl, bb⟩
 generalize hq : fewC c = qc
 have Hqc := Lib.hid hq
 clear hq
 have hprev := st1.go HS1.out (bb)
 replace HS1 := Lib.hid hprev
 clear hprev bb
 cases qc
 · skip
   go_wp2_with fail
   go_ret
   exact ⟨rfl, (F_low.out _ (D1.out _ HS1.out))⟩
 · skip
   have F_okc : Hid (∀ W, S1 W → CpOk W c) := by show ∀ W, _; exact fun W hW => ((F_rc.out _ (D1.out _ hW))).ok Hqc.out
   have Hm : Hid (c.mts.length ≤ 250) := (fewC_of Hqc.out).2.2.2.2.1
   have hmI : (c.mts.length : Int) ≤ 250 := by have := Hm.out; omega
   go_wp2_with (refine wpList_load_rowG rfl 31 _ rfl G_1 rfl 31 c.cells (0, 0) _ (F_C.out _ HS1.out) Tryz.underlying31 rfl (by kernel_rfl) ?_)
   refine (cpCheck_any c w_4 (F_okc.out _ HS1.out)).mono ?_
   rintro e w_5 ⟨rfl, bb⟩
   obtain ⟨zc, hzc⟩ : ∃ z, z = cpCheckZ c := ⟨_, rfl⟩
   rw [← hzc]
   have hprev := st1.go HS1.out (bb)
   replace HS1 := Lib.hid hprev
   clear hprev bb
   by_cases h0 : zc = 0
   rotate_left
   · skip
     have h1 : (zc != 0) = true := by simpa using h0
     clear hzc h0
     go_wp2_with fail
     go_ret
     exact ⟨rfl, (F_low.out _ (D1.out _ HS1.out))⟩
   · skip
     subst h0
     have HO : Hid (OkC c) := okC.1 hzc.symm
     clear hzc
     by_cases ha : at_ < 0
     · skip
       go_wp2_with fail
       go_ret
       exact ⟨rfl, (F_low.out _ (D1.out _ HS1.out))⟩
     · skip
       have c5 := (F_C.out _ HS1.out).cellv (i := 5) (v := .slice c.mA c.mts.length c.mcap) rfl
       by_cases ha2 : (c.mts.length : Int) ≤ at_
       · skip
         go_wp2_with fail
         go_ret
         exact ⟨rfl, (F_low.out _ (D1.out _ HS1.out))⟩
       · skip
         clear c5
         obtain ⟨k, rfl⟩ := Int.eq_ofNat_of_zero_le (Int.not_lt.1 ha)
         have hk : k < c.mts.length := by omega
         have hkI : (k : Int) < (c.mts.length : Int) := by omega
         obtain ⟨x, hx⟩ : ∃ x, c.mts[k]? = some x := ⟨_, List.getElem?_eq_getElem hk⟩
         have Hx := Lib.hid hx
         have hcap : (c.mts.length : Int) ≤ (c.mcap : Int) := by have := HIc.out.mlen; omega
         have hne : c.mts ≠ [] := fun e => by rw [e] at hk; simp at hk
         obtain ⟨ad, had⟩ : ∃ ad, c.mA = some ad := by
          cases hA : c.mA with
          | none => exact absurd (((F_rc.out _ (D1.out _ HS1.out))).mnil hA) hne
          | some ad => exact ⟨ad, rfl⟩
         clear hx ha2 ha hne hat
         have F_C5 : Hid (∀ W, S1 W → W.cell? ⟨G_1, 5, none⟩ = some (.slice (some ad) c.mts.length c.mcap)) := by show ∀ W, _; exact fun W hW => by rw [← had]; exact cp_mut (F_C.out _ hW)
         have F_mrd : Hid (∀ W, S1 W → Rd W (some ad) (mtsC c.mts)) := by show ∀ W, _; exact fun W hW => by rw [← had]; exact ((F_rc.out _ (D1.out _ hW))).mrd
         clear had
         have Hall := Lib.hid (fun A cap => less_all HO.out Hx.out A cap)
         have Hlen := Lib.hid (dropK_len (c := c) (k := k) hk)
         obtain ⟨dl, hdl⟩ : ∃ dl, dl = dropK c k := ⟨_, rfl⟩
         have Hdl := Lib.hid (hdl.trans (dropK_is c k))
         have Hsub : Hid (∀ y ∈ dl, y ∈ c.mts) := by rw [hdl]; exact dropK_mem
         rw [← hdl] at Hall Hlen
         clear hdl
         have c5 := (F_C5.out _ HS1.out)
         go_wp2_with (first | (refine wpList_load_row rfl 31 _ rfl G_1 rfl 31 c.cells (0, 0) _ (F_C.out _ HS1.out) Tryz.underlying31 rfl (by kernel_rfl) ?_) | (refine at_alloc _ rfl ?_))
         clear c5
         refine Stop.to ?_
         refine wpList_alloc_gen rfl 31 rfl _ _ (zero_cp _) rfl ?_
         intro G_6 w_7 hG rG bG
         go_wp2_with (refine at_store _ _ _ rfl ?_)
         refine Stop.to ?_
         refine wpList_store_gen rfl 31 _ _ rfl G_6 (cpM c (.slice c.mA c.mts.length c.mcap) c.sc) rfl rfl 31 _ rG (by kernel_rfl) rfl (by simp [cpM, Value.oneCell']) ?_
         intro w_8 rD oH
         have bC : Below (w_5).heap.size w_5 w_8 := (bG.mono hG).trans (oH.below hG)
         clear rG bG oH
         go_wp2_with fail
         have hpc : (k : Int) ≤ (c.mcap : Int) := by omega
         have hpn : (k : Int) ≤ (c.mts.length : Int) := by omega
         have hp0 : (0 : Int) ≤ (k : Int) := by omega
         have hk1 : k + 1 ≤ c.mts.length := by omega
         have hkw : IntKind.i64.wrap ((k : Int) + 1) = ((k + 1 : Nat) : Int) := by rw [IntWalk.i64_in _ (by omega)]; omega
         obtain ⟨sv, hsv⟩ : ∃ v, v = sliced (some ad) (k + 1) c.mts.length c.mcap 8 := ⟨_, rfl⟩
         have Hsv := Lib.hid hsv
         clear hsv
         refine wp_region_held (S := S1) (by kernel_rfl) ?_
         simp only [List.size_toArray, List.length_cons, List.length_nil, Nat.reduceAdd, Array.replicate_succ, Array.replicate_zero, List.push_toArray, List.nil_append, List.cons_append]
         show wpAnyH _ _ _ _ _ _ _ _ (w_8).drew
         obtain ⟨V0, hV0⟩ : ∃ V0, V0 = (w_8).drew := ⟨_, rfl⟩
         have b0 : Below (w_8).heap.size w_8 V0 := by rw [hV0]; exact St.drew (S := fun W => Below (w_8).heap.size w_8 W) (Below.refl _ _)
         rw [← hV0]
         clear hV0
         replace bC := bC.trans (b0.mono bC.size)
         have hS0 : S1 V0 := st1.go HS1.out bC
         replace rD := rD.below b0 rD.lt
         clear b0
         (refine takeH (i := 1) (v := .pointer (some ⟨G_1, 5, none⟩)) rfl (by kernel_rfl) (by kernel_rfl) (by kernel_rfl) (fun _ _ _ h => h) (yields_val rfl (fun W hW => by (go_simp))) (by assumption) ?_; simp only [Act.put, List.setIfInBounds_toArray, List.set_cons_zero, List.set_cons_succ])
         (refine takeH (i := 2) (v := .slice (some ad) c.mts.length c.mcap) rfl (by kernel_rfl) (by kernel_rfl) (by kernel_rfl) (fun _ _ _ h => h) (yields_val rfl (fun W hW => by ((have c := (F_C5.out _ hW); go_simp)))) (by assumption) ?_; simp only [Act.put, List.setIfInBounds_toArray, List.set_cons_zero, List.set_cons_succ])
         (refine takeH (i := 3) (v := .int .i64 (k : Int)) rfl (by kernel_rfl) (by kernel_rfl) (by kernel_rfl) (fun _ _ _ h => h) (yields_val rfl (fun W hW => by (go_simp))) (by assumption) ?_; simp only [Act.put, List.setIfInBounds_toArray, List.set_cons_zero, List.set_cons_succ])
         (refine takeH (i := 4) (v := .slice (some ad) k c.mcap) rfl (by kernel_rfl) (by kernel_rfl) (by kernel_rfl) (fun _ _ _ h => h) (yields_val rfl (fun W hW => by (go_simp))) (by assumption) ?_; simp only [Act.put, List.setIfInBounds_toArray, List.set_cons_zero, List.set_cons_succ])
         (refine takeH (i := 6) (v := .pointer (some ⟨G_1, 5, none⟩)) rfl (by kernel_rfl) (by kernel_rfl) (by kernel_rfl) (fun _ _ _ h => h) (yields_val rfl (fun W hW => by (go_simp))) (by assumption) ?_; simp only [Act.put, List.setIfInBounds_toArray, List.set_cons_zero, List.set_cons_succ])
         (refine takeH (i := 7) (v := .slice (some ad) c.mts.length c.mcap) rfl (by kernel_rfl) (by kernel_rfl) (by kernel_rfl) (fun _ _ _ h => h) (yields_val rfl (fun W hW => by ((have c := (F_C5.out _ hW); go_simp)))) (by assumption) ?_; simp only [Act.put, List.setIfInBounds_toArray, List.set_cons_zero, List.set_cons_succ])
         (refine takeH (i := 8) (v := .int .i64 (k : Int)) rfl (by kernel_rfl) (by kernel_rfl) (by kernel_rfl) (fun _ _ _ h => h) (yields_val rfl (fun W hW => by (go_simp))) (by assumption) ?_; simp only [Act.put, List.setIfInBounds_toArray, List.set_cons_zero, List.set_cons_succ])
         (refine takeH (i := 9) (v := .int .i64 ((k + 1 : Nat) : Int)) rfl (by kernel_rfl) (by kernel_rfl) (by kernel_rfl) (fun _ _ _ h => h) (yields_val rfl (fun W hW => by (go_simp))) (by assumption) ?_; simp only [Act.put, List.setIfInBounds_toArray, List.set_cons_zero, List.set_cons_succ])
         (refine takeH (i := 10) (v := sv) rfl (by kernel_rfl) (by kernel_rfl) (by kernel_rfl) (fun _ _ _ h => h) (yields_val rfl (fun W hW => by ((rw [Hsv.out]; exact run_exec_slc rfl (run_slL W (some ad) c.mts.length c.mcap (k + 1) hk1))))) (by assumption) ?_; simp only [Act.put, List.setIfInBounds_toArray, List.set_cons_zero, List.set_cons_succ])
         (refine wpAnyH_all (rs := [0]) (by kernel_rfl) (by simp) (fun i hi => ?_); obtain rfl : i = 0 := by simpa using hi)
         refine wpOp_plain rfl rfl (fun K2 hK2 => ?_)
         refine wp_res_gen (.slice (some ⟨V0.heap.size, 0, none⟩) 0 0) (run_exec_bslice [] rfl (bs_mut0 V0)) ?_
         refine hK2 _ _ ?_
         clear hK2 K2
         simp only [Act.put, List.setIfInBounds_toArray, List.set_cons_zero, List.set_cons_succ]
         have rN := Row.new V0 47 #[]
         have bN := (Below.refl V0.heap.size V0).alloc (Nat.le_refl _) (.cells #[] 47)
         obtain ⟨lim, hlim⟩ : ∃ lim, lim = V0.heap.size := ⟨_, rfl⟩
         rw [← hlim] at rN ⊢
         generalize V0.alloc (.cells #[] 47) = V1 at rN bN ⊢
         have lV1 : lim ≤ V1.heap.size := by rw [hlim]; exact bN.size
         have hlC : (w_5).heap.size ≤ lim := by rw [hlim]; exact bC.size
         have hown0 := own_emptyS (B := lim) (size := 8) (Nat.le_refl _) rN
         replace bC := bC.trans (bN.mono bC.size)
         replace hS0 : S1 V1 := st1.go HS1.out bC
         replace rD := rD.below bN rD.lt
         refine ⟨hS0, ?_⟩
         clear rN bN hlim
         obtain ⟨v2, V2, hrun2, hown2, hgr2, -⟩ := append_mt (m := k) (cap := c.mcap) hown0 lV1 (c.mts.take k) (mts_take (F_mrd.out _ hS0) k) (by simp; omega) (fun e => by cases e) (by omega)
         have bC2 := below_grown_own bC hown0 hgr2 bC.size hlC
         have rD2 := rD.grown hgr2 (own_ne hown0 rD (by decide))
         have hS2 : S1 V2 := st1.go HS1.out bC2
         have lV2 : lim ≤ V2.heap.size := Nat.le_trans lV1 hgr2.size
         have Hrun2 := Lib.hid hrun2
         clear hrun2 hgr2 hown0 bC rD hS0
         (refine wpAnyH_all (rs := [5]) (by kernel_rfl) (by simp) (fun i hi => ?_); obtain rfl : i = 5 := by simpa using hi)
         refine wpOp_plain rfl rfl (fun K2 hK2 => ?_)
         refine wp_res_gen _ (run_exec_append rfl Hrun2.out) ?_
         refine hK2 _ _ ?_
         clear hK2 K2 Hrun2
         simp only [Act.put, List.setIfInBounds_toArray, List.set_cons_zero, List.set_cons_succ]
         refine ⟨hS2, ?_⟩
         obtain ⟨X, hX, hrX, hX0⟩ := mts_drop (F_mrd.out _ hS2) (cap := c.mcap) rfl hk1 (by omega) (fun e => by cases e)
         obtain ⟨v4, V4, hrun4, hown4, hgr4, -⟩ := append_mt (m := c.mts.length - (k + 1)) (cap := c.mcap - (k + 1)) hown2 lV2 (c.mts.drop (k + 1)) hrX (by rw [List.length_drop]) hX0 (by omega)
         rw [← hX, ← Hsv.out] at hrun4
         have Hrun4 := Lib.hid hrun4
         have bC4 := below_grown_own bC2 hown2 hgr4 bC2.size hlC
         have rD4 := rD2.grown hgr4 (own_ne hown2 rD2 (by decide))
         have hS4 : S1 V4 := st1.go HS1.out bC4
         obtain ⟨A4, cap4, rfl, hA, hnil, hrb⟩ := own_less hown4 (l := dl) (by rw [Hdl.out, List.length_append, List.length_take, List.length_drop]; omega) (by rw [Hdl.out, mtsC_append]; rfl)
         clear hrun4 hX hrX hX0 hown2 hgr4 bC2 rD2 hS2 lV2 hown4
         (refine wpAnyH_all (rs := [11]) (by kernel_rfl) (by simp) (fun i hi => ?_); obtain rfl : i = 11 := by simpa using hi)
         refine wpOp_plain rfl rfl (fun K2 hK2 => ?_)
         refine wp_res_gen _ (run_exec_append rfl Hrun4.out) ?_
         refine hK2 _ _ ?_
         clear hK2 K2 Hrun4
         simp only [Act.put, List.setIfInBounds_toArray, List.set_cons_zero, List.set_cons_succ]
         refine ⟨hS4, ?_⟩
         (refine takeH (i := 12) (v := .pointer (some ⟨G_6, 5, none⟩)) rfl (by kernel_rfl) (by kernel_rfl) (by kernel_rfl) (fun _ _ _ h => h) (yields_val rfl (fun W hW => by (go_simp))) (by assumption) ?_; simp only [Act.put, List.setIfInBounds_toArray, List.set_cons_zero, List.set_cons_succ])
         (refine wpAnyH_all (rs := [13]) (by kernel_rfl) (by simp) (fun i hi => ?_); obtain rfl : i = 13 := by simpa using hi)
         refine wpOp_plain rfl rfl (fun K2 hK2 => ?_)
         refine wp_store_part 27 _ _ rfl G_6 5 rfl (.slice A4 dl.length cap4) rfl [.slice A4 dl.length cap4] rfl 31 _ (cpM c (.slice A4 dl.length cap4) c.sc) rD4 (by kernel_rfl) (by show 5 + 1 ≤ 9; omega) (by simp [Value.oneCell']) rfl ?_
         intro V5 rD5 o5
         refine hK2 _ _ ?_
         clear hK2 K2
         simp only [Act.put, List.setIfInBounds_toArray, List.set_cons_zero, List.set_cons_succ]
         have bC5 : Below (w_5).heap.size w_5 V5 := below_only bC4 o5 hG
         have hS5 : S1 V5 := st1.go HS1.out bC5
         refine ⟨hS5, ?_⟩
         have hA5 := hA.only o5 (fun _ => hrb.ne rD4 (by decide))
         have hrb5 := hrb.only o5 rD4 (by decide)
         refine wpAnyH_done (by kernel_rfl) ?_ _
         clear bC4 rD4 hS4 hA hrb o5
         have hok5 : CpOk V5 (lessC c A4 cap4 dl c.sc) := lessC_ok (partC_ok (F_okc.out _ hS5) Hsub.out (by have := Hlen.out; omega) hA5 hnil)
         clear hS5
         go_wp2_with (refine wpList_load_row rfl 31 _ rfl G_6 rfl 31 (cpM c (.slice A4 dl.length cap4) c.sc) (0, 0) _ rD5 Tryz.underlying31 rfl (by kernel_rfl) ?_)
         refine (cpCheck_any (lessC c A4 cap4 dl c.sc) V5 hok5).mono ?_
         rintro e V6 ⟨rfl, b6⟩
         rw [(Hall.out A4 cap4).2.1]
         have rD6 := rD5.below b6 rD5.lt
         have bC6 := bC5.trans (b6.mono bC5.size)
         have hA6 := hA5.go b6
         have hrb6 := hrb5.go b6
         have cD6 := cpM_cell rD6
         clear rD5 bC5 hA5 hrb5 hok5 b6
         go_wp2_with fail
         refine (score_any A4 cap4 dl V6 hA6 (by have := Hlen.out; omega)).mono ?_
         rintro e V7 ⟨rfl, b7⟩
         have rD7 := rD6.below b7 rD6.lt
         have bC7 := bC6.trans (b7.mono bC6.size)
         have hA7 := hA6.go b7
         have hrb7 := hrb6.go b7
         clear rD6 bC6 hA6 hrb6 b7 cD6
         go_wp2_with (refine at_store _ _ _ rfl ?_)
         refine Stop.to ?_
         refine wpList_store_part rfl 29 _ _ rfl G_6 6 rfl (.agg (scoreZ (dl.map MtV.m)).cells) rfl (scoreZ (dl.map MtV.m)).cells.toList rfl 31 _ (cpM c (.slice A4 dl.length cap4) (scoreZ (dl.map MtV.m))) rD7 (by kernel_rfl) (by show 6 + 3 ≤ 9; omega) (by simp [Sc.cells, Value.oneCell']) rfl ?_
         intro V8 rD8 o8
         have bC8 : Below (w_5).heap.size w_5 V8 := below_only bC7 o8 hG
         have hA8 := hA7.only o8 (fun _ => hrb7.ne rD7 (by decide))
         clear rD7 bC7 hA7 hrb7 o8
         have hprev := st1.go HS1.out (bC8)
         obtain ⟨S2, hSd⟩ : ∃ S : World → Prop, S = (fun W => S1 W ∧ Row W G_6 31 (cpM c (.slice A4 dl.length cap4) (scoreZ (dl.map MtV.m))) ∧ Rd W A4 (mtsC dl)) := ⟨_, rfl⟩
         have st2 : St S2 := by rw [hSd]; infer_instance
         have D2 : Hid (∀ W, S2 W → S1 W) := by show ∀ W, _; rw [hSd]; exact fun W h => h.1
         have F_D : Hid (∀ W, S2 W → Row W G_6 31 (cpM c (.slice A4 dl.length cap4) (scoreZ (dl.map MtV.m)))) := by show ∀ W, _; rw [hSd]; exact fun W h => h.2.1
         have F_rda : Hid (∀ W, S2 W → Rd W A4 (mtsC dl)) := by show ∀ W, _; rw [hSd]; exact fun W h => h.2.2
         have HS2 : Hid (S2 V8) := by show S2 V8; rw [hSd]; exact ⟨hprev, rD8, hA8⟩
         clear hSd
         clear hprev HS1 rD8 hA8 bC8 hG
         have Hnil := Lib.hid hnil
         clear hnil
         have F_okd : Hid (∀ W, S2 W → CpOk W (partC c A4 cap4 dl)) := by show ∀ W, _; exact fun W hW => partC_ok (F_okc.out _ (D2.out _ hW)) Hsub.out (by have := Hlen.out; omega) (F_rda.out _ hW) Hnil.out
         have c5 := (F_C5.out _ (D2.out _ HS2.out))
         go_wp2_with (refine at_slb _ _ _ _ rfl ?_)
         clear c5
         obtain ⟨X1, hX1, hr1⟩ := mts_one (F_mrd.out _ (D2.out _ HS2.out)) Hx.out (cap := c.mcap) (by omega) (by simp)
         have Hsl := Lib.hid (hX1 ▸ run_slB (V8) (some ad) c.mts.length c.mcap k (k + 1) (by omega) (by omega))
         clear hX1
         refine Stop.to ?_
         refine wpList_res rfl _ (run_exec_slb rfl Hsl.out) ?_
         clear Hsl
         go_wp2_with fail
         refine (score_any X1 (c.mcap - k) [x] V8 hr1 (by simp)).mono ?_
         rintro e w_9 ⟨rfl, bb⟩
         have hprev := st2.go HS2.out (bb)
         replace HS2 := Lib.hid hprev
         clear hprev bb hr1
         go_wp2_with (refine at_alloc _ rfl ?_)
         refine Stop.to ?_
         refine wpList_alloc_gen rfl 29 rfl _ _ (zero_score _) rfl ?_
         intro G_10 w_11 hG rG bG
         go_wp2_with (refine at_store _ _ _ rfl ?_)
         refine Stop.to ?_
         refine wpList_store_gen rfl 29 _ _ rfl G_10 (scoreZ [x.m]).cells rfl rfl 29 _ rG (by kernel_rfl) rfl (by simp [Sc.cells, Value.oneCell']) ?_
         intro w_12 rH oH
         have bH : Below (w_9).heap.size w_9 w_12 := (bG.mono hG).trans (oH.below hG)
         have hprev := st2.go HS2.out (bH)
         obtain ⟨S3, hSd⟩ : ∃ S : World → Prop, S = (fun W => S2 W ∧ Row W G_10 29 (scoreZ [x.m]).cells) := ⟨_, rfl⟩
         have st3 : St S3 := by rw [hSd]; infer_instance
         have D3 : Hid (∀ W, S3 W → S2 W) := by show ∀ W, _; rw [hSd]; exact fun W h => h.1
         have F_O : Hid (∀ W, S3 W → Row W G_10 29 (scoreZ [x.m]).cells) := by show ∀ W, _; rw [hSd]; exact fun W h => h.2
         have HS3 : Hid (S3 w_12) := by show S3 w_12; rw [hSd]; exact ⟨hprev, rH⟩
         clear hSd
         clear hprev HS2 hG rG bG rH oH bH
         go_wp2_with fail
         have Hsm := Lib.hid (score_small (dl.map MtV.m) (by rw [List.length_map]; have := Hlen.out; omega))
         have Hs1 := Lib.hid (score_small [x.m] (by simp))
         have Hsc : Hid c.sc.small := by
          have h9 := score_small c.muts (by unfold CpV.muts; rw [List.length_map]; omega)
          rw [← HO.out.sc] at h9
          exact h9
         have Htot := Lib.hid HO.out.tot
         have HX0 : Hid (∀ W, S3 W → ∀ j v, c.sc.cells.toList[j]? = some v → W.cell? ((⟨G_1, 6, none⟩ : Addr).add j) = some v) := fun W hW => cp_score (F_C.out _ (D2.out _ (D3.out _ hW)))
         have HX1 : Hid (∀ W, S3 W → ∀ j v, (scoreZ (dl.map MtV.m)).cells.toList[j]? = some v → W.cell? ((⟨G_6, 6, none⟩ : Addr).add j) = some v) := fun W hW => cp_score (c := partC c A4 cap4 dl) (F_D.out _ (D3.out _ hW))
         have HC1 : Hid (∀ W, S3 W → Calls Tryz.prog 26 #[.agg (partC c A4 cap4 dl).cells] W fun e w' => e = .returned (.int .i64 0) ∧ Below W.heap.size W w') := fun W hW => by have h9 := cpCheck_any (partC c A4 cap4 dl) W (F_okd.out _ (D3.out _ hW)); rw [okC.2 (Hall.out A4 cap4).1] at h9; exact h9
         have HC2 : Hid (∀ W, S3 W → Calls Tryz.prog 28 #[.agg (scoreZ (dl.map MtV.m)).cells, .agg (scoreZ [x.m]).cells] W fun e w' => e = .returned (.agg #[.int .i64 c.sc.alive, .int .i64 c.sc.killed, .int .i64 c.sc.timeout]) ∧ Below W.heap.size W w') := fun W hW => by have h9 := scAdd_any (scoreZ (dl.map MtV.m)) (scoreZ [x.m]) W Hsm.out Hs1.out; rw [(Hall.out A4 cap4).2.2.1] at h9; exact h9
         have HC3 : Hid (∀ W, S3 W → Calls Tryz.prog 42 #[.agg #[.int .i64 c.sc.alive, .int .i64 c.sc.killed, .int .i64 c.sc.timeout]] W fun e w' => e = .returned (.int .i64 (c.mts.length : Int)) ∧ Below W.heap.size W w') := fun W hW => by have h9 := scTotal_any c.sc W Hsc.out; rw [Htot.out] at h9; exact h9
         have HC4 : Hid (∀ W, S3 W → Calls Tryz.prog 27 #[.agg c.cells, .agg (partC c A4 cap4 dl).cells] W fun e w' => e = .returned (.bool false) ∧ Below W.heap.size W w') := fun W hW => by have h9 := cpSame_any c (partC c A4 cap4 dl) W (F_okc.out _ (D2.out _ (D3.out _ hW))) (F_okd.out _ (D3.out _ hW)); rw [(Hall.out A4 cap4).2.2.2] at h9; exact h9
         have heqs := fun W => eql_scE c.sc W
         refine region_hold S3 (by kernel_rfl) (by kernel_rfl) (St.drew HS3.out) ?_
         (refine hold_value rfl ?_ (fun W hW => ?_) ?_; rotate_left; (focus (go_simp; exact rfl)); simp only [Act.put, List.setIfInBounds_toArray, List.set_cons_zero, List.set_cons_succ])
         (refine hold_value rfl ?_ (fun W hW => ?_) ?_; rotate_left; (focus (go_simp; exact rfl)); simp only [Act.put, List.setIfInBounds_toArray, List.set_cons_zero, List.set_cons_succ])
         (refine hold_load_row rfl 31 _ rfl (G_6) rfl 31 _ _ (fun W hW => (F_D.out _ (D3.out _ hW))) Tryz.underlying31 rfl (by kernel_rfl) ?_; simp only [Act.put, List.setIfInBounds_toArray, List.set_cons_zero, List.set_cons_succ])
         (refine hold_call_new rfl 26 _ (fun W => by (go_simp; try rfl)) (.int .i64 0) (fun W hW => HC1.out W hW) ?_; simp only [Act.put, List.setIfInBounds_toArray, List.set_cons_zero, List.set_cons_succ])
         iterate 4 (refine hold_value rfl ?_ (fun W hW => ?_) ?_; rotate_left; (focus (go_simp; exact rfl)); simp only [Act.put, List.setIfInBounds_toArray, List.set_cons_zero, List.set_cons_succ])
         (refine hold_load_at rfl 29 _ rfl (_) rfl (scoreZ (dl.map MtV.m)).cells.toList _ HX1.out Tryz.underlying29 rfl (by kernel_rfl) ?_; simp only [Act.put, List.setIfInBounds_toArray, List.set_cons_zero, List.set_cons_succ])
         (refine hold_load_row rfl 29 _ rfl (G_10) rfl 29 _ _ (fun W hW => (F_O.out _ hW)) Tryz.underlying29 rfl (by kernel_rfl) ?_; simp only [Act.put, List.setIfInBounds_toArray, List.set_cons_zero, List.set_cons_succ])
         (refine hold_call_new rfl 28 _ (fun W => by (go_simp; try rfl)) (.agg #[.int .i64 c.sc.alive, .int .i64 c.sc.killed, .int .i64 c.sc.timeout]) (fun W hW => HC2.out W hW) ?_; simp only [Act.put, List.setIfInBounds_toArray, List.set_cons_zero, List.set_cons_succ])
         (refine hold_value rfl ?_ (fun W hW => ?_) ?_; rotate_left; (focus (go_simp; exact rfl)); simp only [Act.put, List.setIfInBounds_toArray, List.set_cons_zero, List.set_cons_succ])
         (refine hold_load_at rfl 29 _ rfl (_) rfl [.int .i64 c.sc.alive, .int .i64 c.sc.killed, .int .i64 c.sc.timeout] _ HX0.out Tryz.underlying29 rfl (by kernel_rfl) ?_; simp only [Act.put, List.setIfInBounds_toArray, List.set_cons_zero, List.set_cons_succ])
         iterate 4 (refine hold_value rfl ?_ (fun W hW => ?_) ?_; rotate_left; (focus (go_simp; exact rfl)); simp only [Act.put, List.setIfInBounds_toArray, List.set_cons_zero, List.set_cons_succ])
         (refine hold_load_at rfl 29 _ rfl (_) rfl [.int .i64 c.sc.alive, .int .i64 c.sc.killed, .int .i64 c.sc.timeout] _ HX0.out Tryz.underlying29 rfl (by kernel_rfl) ?_; simp only [Act.put, List.setIfInBounds_toArray, List.set_cons_zero, List.set_cons_succ])
         (refine hold_call_new rfl 42 _ (fun W => by (go_simp; try rfl)) (.int .i64 (c.mts.length : Int)) (fun W hW => HC3.out W hW) ?_; simp only [Act.put, List.setIfInBounds_toArray, List.set_cons_zero, List.set_cons_succ])
         (refine hold_value rfl ?_ (fun W hW => ?_) ?_; rotate_left; (focus (go_simp; exact rfl)); simp only [Act.put, List.setIfInBounds_toArray, List.set_cons_zero, List.set_cons_succ])
         (refine hold_value rfl ?_ (fun W hW => ?_) ?_; rotate_left; (focus (have cc := (F_C5.out _ (D2.out _ (D3.out _ hW))); go_simp; exact rfl)); simp only [Act.put, List.setIfInBounds_toArray, List.set_cons_zero, List.set_cons_succ])
         iterate 4 (refine hold_value rfl ?_ (fun W hW => ?_) ?_; rotate_left; (focus (go_simp; exact rfl)); simp only [Act.put, List.setIfInBounds_toArray, List.set_cons_zero, List.set_cons_succ])
         (refine hold_load_row rfl 31 _ rfl (G_1) rfl 31 _ _ (fun W hW => (F_C.out _ (D2.out _ (D3.out _ hW)))) Tryz.underlying31 rfl (by kernel_rfl) ?_; simp only [Act.put, List.setIfInBounds_toArray, List.set_cons_zero, List.set_cons_succ])
         (refine hold_load_row rfl 31 _ rfl (G_6) rfl 31 _ _ (fun W hW => (F_D.out _ (D3.out _ hW))) Tryz.underlying31 rfl (by kernel_rfl) ?_; simp only [Act.put, List.setIfInBounds_toArray, List.set_cons_zero, List.set_cons_succ])
         (refine hold_call_new rfl 27 _ (fun W => by (go_simp; try rfl)) (.bool false) (fun W hW => HC4.out W hW) ?_; simp only [Act.put, List.setIfInBounds_toArray, List.set_cons_zero, List.set_cons_succ])
         iterate 3 (refine hold_value rfl ?_ (fun W hW => ?_) ?_; rotate_left; (focus (go_simp; exact rfl)); simp only [Act.put, List.setIfInBounds_toArray, List.set_cons_zero, List.set_cons_succ])
         refine wpHold_nil fun W9 hS9 => ?_
         go_wp2_with fail
         go_ret
         exact ⟨rfl, (F_low.out _ (D1.out _ (D2.out _ (D3.out _ hS9))))⟩
end Go.Proofs.YtcgglolckkeeiaaGreat
