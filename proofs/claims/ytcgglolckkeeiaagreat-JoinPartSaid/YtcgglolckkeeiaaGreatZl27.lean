/- Lemmas for JnCll. -/
import Derived.Test.YtcgglolckkeeiaaGreatZl1
import Derived.Test.YtcgglolckkeeiaaGreatZl24
import Derived.Test.YtcgglolckkeeiaaGreatZl7
import Derived.Test.YtcgglolckkeeiaaGreatZl25
import Derived.Test.YtcgglolckkeeiaaGreatZl26
import Derived.Test.YtcgglolckkeeiaaGreatZl22
namespace Go.Proofs.YtcgglolckkeeiaaGreat
set_option linter.unusedVariables false
open Go.RowKit
theorem own_rdN {w : World} {base n size : Nat} {e : TypeId} {v : Value} {xs : List Value} (h : w.ownsRow base e size v n xs) : ∃ A cap, v = .slice A n cap ∧ Rd w A xs ∧ n ≤ cap ∧ cap ≤ maxLen ∧ (A = none → cap = 0) ∧ ∀ ad, A = some ad → base ≤ ad.block := by
 have hl : xs.length = n * size := h.1
 rcases h.2 with ⟨rfl, h0⟩ | ⟨g, cap, cur, rfl, hb, hh, hc, hm, hsz, ht⟩
 · have hx : xs = [] := List.eq_nil_of_length_eq_zero (by rw [hl, h0, Nat.zero_mul])
   subst hx
   exact ⟨none, 0, by rw [h0], Rd.nil _ _, by omega, by unfold maxLen; omega, fun _ => rfl, fun ad e => by cases e⟩
 · refine ⟨some ⟨g, 0, none⟩, cap, rfl, fun j u hj => ⟨_, rfl, ?_⟩, hc, hm, fun e => (by cases e), fun ad e => by cases e; exact hb⟩
   have hr : Row w g e cur := hh
   exact hr.from_ 0 (cs := xs) (fun j v hj => by
    rw [Nat.zero_add, ← Array.getElem?_toList]
    have h1 : (cur.toList.take (n * size))[j]? = some v := by rw [ht]; exact hj
    rw [List.getElem?_take_of_lt (by have := (List.getElem?_eq_some_iff.1 hj).1; omega)] at h1; exact h1) j u hj
end Go.Proofs.YtcgglolckkeeiaaGreat
namespace Go.Proofs.YtcgglolckkeeiaaGreat
set_option linter.unusedVariables false
open Go.RowKit Go.Deep
instance : DecidableEq Dl := fun a b => decidable_of_iff (cmpD a b = 0) cmpD_eq
theorem chV_at {W : World} {A : Option Addr} {l : List ChV} (hr : Rd W A (chsC l)) {k : Nat} {x : ChV} (hx : l[k]? = some x) : ∃ ad, A = some ad ∧ ∀ j u, x.cells.toList[j]? = some u → W.cell? ((ad.add (k * 5)).add j) = some u :=
 el_at (c := fun c : ChV => c.cells.toList) (sz := 5) (fun _ => rfl) (by decide) hr hx
theorem ch_dl {W : World} {A : Addr} {x : ChV} (h : ∀ j u, x.cells.toList[j]? = some u → W.cell? (A.add j) = some u) : ∀ j v, x.x.cells.toList[j]? = some v → W.cell? (A.add j) = some v := fun j v hj => h j v (by
 match j, hj with
 | 0, hj | 1, hj | 2, hj => exact hj
 | j + 3, hj => simp [DlV.cells] at hj)
instance St.chok {l : List ChV} : St (fun W => ∀ x ∈ l, DlOk W x.x) := ⟨fun h b x hx => ⟨Rd.go (h x hx).rd b, (h x hx).len⟩⟩
end Go.Proofs.YtcgglolckkeeiaaGreat
namespace Go.Proofs.YtcgglolckkeeiaaGreat
set_option linter.unusedVariables false
open Go.RowKit Go.Deep
instance St.rowB {t : TypeId} {A : Option Addr} : St (fun W => RowB W t A) := ⟨fun h b => h.go b⟩
instance St.cpt {c : CpV} : St (fun W => CpT W c) := ⟨fun h b => ⟨h.va.go b, h.ba.go b, h.tA.go b, fun x hx => (h.ts x hx).go b, h.mA.go b, fun x hx => (h.ms x hx).go b⟩⟩
set_option maxRecDepth 100000 in
set_option maxHeartbeats 16000000 in
theorem works25_any (w : World) : Calls Tryz.prog 15 #[] w fun e w' => e = .returned (.bool true) ∧ Below w.heap.size w w' := by
 go_enter Tryz.func15, Tryz.ntmps15
 obtain ⟨S0, hSd⟩ : ∃ S : World → Prop, S = (fun W => Below w.heap.size w W) := ⟨_, rfl⟩
 have st0 : St S0 := by rw [hSd]; infer_instance
 have F_low : Hid (∀ W, S0 W → Below w.heap.size w W) := by show ∀ W, _; rw [hSd]; exact fun W h => h
 have HS0 : Hid (S0 w) := by show S0 w; rw [hSd]; exact Below.refl _ _
 clear hSd
 go_wp2_with (refine at_slice _ _ _ rfl ?_)
 refine Stop.to ?_
 refine wpList_slice_gen rfl 22 1 _ rfl 3 (ints [0]).toArray (bs_run Tryz.underlying22 info_iE (by decide) (by decide) (by kernel_rfl)) ?_
 intro G_1 w_2 hG rG bG
 have hprev := st0.go HS0.out (bG.mono hG)
 obtain ⟨S1, hSd⟩ : ∃ S : World → Prop, S = (fun W => S0 W ∧ Row W G_1 3 (ints [0]).toArray) := ⟨_, rfl⟩
 have st1 : St S1 := by rw [hSd]; infer_instance
 have D1 : Hid (∀ W, S1 W → S0 W) := by show ∀ W, _; rw [hSd]; exact fun W h => h.1
 have F_v1 : Hid (∀ W, S1 W → Row W G_1 3 (ints [0]).toArray) := by show ∀ W, _; rw [hSd]; exact fun W h => h.2
 have HS1 : Hid (S1 w_2) := by show S1 w_2; rw [hSd]; exact ⟨hprev, rG⟩
 clear hSd
 clear hprev HS0 hG rG bG
 go_wp2_with (refine at_slice _ _ _ rfl ?_)
 refine Stop.to ?_
 refine wpList_slice_gen rfl 23 3 _ rfl 74 (bodyE.flatMap Nd.cells).toArray (bs_run Tryz.underlying23 info_nE (by decide) (by decide) (by kernel_rfl)) ?_
 intro G_3 w_4 hG rG bG
 have hprev := st1.go HS1.out (bG.mono hG)
 obtain ⟨S2, hSd⟩ : ∃ S : World → Prop, S = (fun W => S1 W ∧ Row W G_3 74 (bodyE.flatMap Nd.cells).toArray) := ⟨_, rfl⟩
 have st2 : St S2 := by rw [hSd]; infer_instance
 have D2 : Hid (∀ W, S2 W → S1 W) := by show ∀ W, _; rw [hSd]; exact fun W h => h.1
 have F_n1 : Hid (∀ W, S2 W → Row W G_3 74 (bodyE.flatMap Nd.cells).toArray) := by show ∀ W, _; rw [hSd]; exact fun W h => h.2
 have HS2 : Hid (S2 w_4) := by show S2 w_4; rw [hSd]; exact ⟨hprev, rG⟩
 clear hSd
 clear hprev HS1 hG rG bG
 go_wp2_with (refine at_alloc _ rfl ?_)
 refine Stop.to ?_
 refine wpList_alloc_gen rfl 25 rfl _ _ zero_pgE rfl ?_
 intro G_5 w_6 hG rG bG
 go_wp2_with (refine at_store _ _ _ rfl ?_)
 refine Stop.to ?_
 refine wpList_store_gen rfl 25 _ _ rfl G_5 #[.int .i64 1, .slice (some ⟨G_1, 0, none⟩) 1 1, .slice (some ⟨G_3, 0, none⟩) 3 3] rfl rfl 25 _ rG (by kernel_rfl) rfl (by simp [Value.oneCell']) ?_
 intro w_7 rH oH
 have bH : Below (w_4).heap.size w_4 w_7 := (bG.mono hG).trans (oH.below hG)
 have hprev := st2.go HS2.out (bH)
 obtain ⟨S3, hSd⟩ : ∃ S : World → Prop, S = (fun W => S2 W ∧ Row W G_5 25 #[.int .i64 1, .slice (some ⟨G_1, 0, none⟩) 1 1, .slice (some ⟨G_3, 0, none⟩) 3 3]) := ⟨_, rfl⟩
 have st3 : St S3 := by rw [hSd]; infer_instance
 have D3 : Hid (∀ W, S3 W → S2 W) := by show ∀ W, _; rw [hSd]; exact fun W h => h.1
 have F_P : Hid (∀ W, S3 W → Row W G_5 25 #[.int .i64 1, .slice (some ⟨G_1, 0, none⟩) 1 1, .slice (some ⟨G_3, 0, none⟩) 3 3]) := by show ∀ W, _; rw [hSd]; exact fun W h => h.2
 have HS3 : Hid (S3 w_7) := by show S3 w_7; rw [hSd]; exact ⟨hprev, rH⟩
 clear hSd
 clear hprev HS2 hG rG bG rH oH bH
 go_wp2_with (refine at_slice _ _ _ rfl ?_)
 refine Stop.to ?_
 refine wpList_slice_gen rfl 22 1 _ rfl 3 (ints [0]).toArray (bs_run Tryz.underlying22 info_iE (by decide) (by decide) (by kernel_rfl)) ?_
 intro G_8 w_9 hG rG bG
 have hprev := st3.go HS3.out (bG.mono hG)
 obtain ⟨S4, hSd⟩ : ∃ S : World → Prop, S = (fun W => S3 W ∧ Row W G_8 3 (ints [0]).toArray) := ⟨_, rfl⟩
 have st4 : St S4 := by rw [hSd]; infer_instance
 have D4 : Hid (∀ W, S4 W → S3 W) := by show ∀ W, _; rw [hSd]; exact fun W h => h.1
 have F_d1 : Hid (∀ W, S4 W → Row W G_8 3 (ints [0]).toArray) := by show ∀ W, _; rw [hSd]; exact fun W h => h.2
 have HS4 : Hid (S4 w_9) := by show S4 w_9; rw [hSd]; exact ⟨hprev, rG⟩
 clear hSd
 clear hprev HS3 hG rG bG
 go_wp2_with (refine at_alloc _ rfl ?_)
 refine Stop.to ?_
 refine wpList_alloc_gen rfl 47 rfl _ _ (zero_mt _) rfl ?_
 intro G_10 w_11 hG rG bG
 go_wp2_with (refine at_store _ _ _ rfl ?_)
 refine Stop.to ?_
 refine wpList_store_gen rfl 47 _ _ rfl G_10 #[.slice (some ⟨G_8, 0, none⟩) 1 1, .int .i64 5, .int .i64 0, .int .i64 0, .int .i64 (-1), .int .i64 0, .int .i64 0, .string ByteArray.empty] rfl rfl 47 _ rG (by kernel_rfl) rfl (by simp [Value.oneCell']) ?_
 intro w_12 rH oH
 have bH : Below (w_9).heap.size w_9 w_12 := (bG.mono hG).trans (oH.below hG)
 have hprev := st4.go HS4.out (bH)
 obtain ⟨S5, hSd⟩ : ∃ S : World → Prop, S = (fun W => S4 W ∧ Row W G_10 47 #[.slice (some ⟨G_8, 0, none⟩) 1 1, .int .i64 5, .int .i64 0, .int .i64 0, .int .i64 (-1), .int .i64 0, .int .i64 0, .string ByteArray.empty]) := ⟨_, rfl⟩
 have st5 : St S5 := by rw [hSd]; infer_instance
 have D5 : Hid (∀ W, S5 W → S4 W) := by show ∀ W, _; rw [hSd]; exact fun W h => h.1
 have F_M : Hid (∀ W, S5 W → Row W G_10 47 #[.slice (some ⟨G_8, 0, none⟩) 1 1, .int .i64 5, .int .i64 0, .int .i64 0, .int .i64 (-1), .int .i64 0, .int .i64 0, .string ByteArray.empty]) := by show ∀ W, _; rw [hSd]; exact fun W h => h.2
 have HS5 : Hid (S5 w_12) := by show S5 w_12; rw [hSd]; exact ⟨hprev, rH⟩
 clear hSd
 clear hprev HS4 hG rG bG rH oH bH
 go_wp2_with (first | (refine wpList_load_row rfl 25 _ rfl G_5 rfl 25 #[.int .i64 1, .slice (some ⟨G_1, 0, none⟩) 1 1, .slice (some ⟨G_3, 0, none⟩) 3 3] (0, 0) _ (F_P.out _ (D4.out _ (D5.out _ HS5.out))) Tryz.underlying25 rfl (by kernel_rfl) ?_) | (refine at_slice _ _ _ rfl ?_))
 refine Stop.to ?_
 refine wpList_slice_gen rfl 22 1 _ rfl 3 (ints [1]).toArray (bs_run Tryz.underlying22 info_iE (by decide) (by decide) (by kernel_rfl)) ?_
 intro G_13 w_14 hG rG bG
 have hprev := st5.go HS5.out (bG.mono hG)
 obtain ⟨S6, hSd⟩ : ∃ S : World → Prop, S = (fun W => S5 W ∧ Row W G_13 3 (ints [1]).toArray) := ⟨_, rfl⟩
 have st6 : St S6 := by rw [hSd]; infer_instance
 have D6 : Hid (∀ W, S6 W → S5 W) := by show ∀ W, _; rw [hSd]; exact fun W h => h.1
 have F_t1 : Hid (∀ W, S6 W → Row W G_13 3 (ints [1]).toArray) := by show ∀ W, _; rw [hSd]; exact fun W h => h.2
 have HS6 : Hid (S6 w_14) := by show S6 w_14; rw [hSd]; exact ⟨hprev, rG⟩
 clear hSd
 clear hprev HS5 hG rG bG
 go_wp2_with (refine at_slice _ _ _ rfl ?_)
 refine Stop.to ?_
 refine wpList_slice_gen rfl 26 1 _ rfl 22 (tstC [tvE G_13]).toArray (bs_run Tryz.underlying26 info_tE (by decide) (by decide) (by kernel_rfl)) ?_
 intro G_15 w_16 hG rG bG
 have hprev := st6.go HS6.out (bG.mono hG)
 obtain ⟨S7, hSd⟩ : ∃ S : World → Prop, S = (fun W => S6 W ∧ Row W G_15 22 (tstC [tvE G_13]).toArray) := ⟨_, rfl⟩
 have st7 : St S7 := by rw [hSd]; infer_instance
 have D7 : Hid (∀ W, S7 W → S6 W) := by show ∀ W, _; rw [hSd]; exact fun W h => h.1
 have F_T1 : Hid (∀ W, S7 W → Row W G_15 22 (tstC [tvE G_13]).toArray) := by show ∀ W, _; rw [hSd]; exact fun W h => h.2
 have HS7 : Hid (S7 w_16) := by show S7 w_16; rw [hSd]; exact ⟨hprev, rG⟩
 clear hSd
 clear hprev HS6 hG rG bG
 go_wp2_with (first | (refine wpList_load_row rfl 47 _ rfl G_10 rfl 47 #[.slice (some ⟨G_8, 0, none⟩) 1 1, .int .i64 5, .int .i64 0, .int .i64 0, .int .i64 (-1), .int .i64 0, .int .i64 0, .string ByteArray.empty] (0, 0) _ (F_M.out _ (D6.out _ (D7.out _ HS7.out))) Tryz.underlying47 rfl (by kernel_rfl) ?_) | (refine at_slice _ _ _ rfl ?_))
 refine Stop.to ?_
 refine wpList_slice_gen rfl 27 1 _ rfl 47 (mtsC [mvE G_8]).toArray (bs_run Tryz.underlying27 info_mtz (by decide) (by decide) (by kernel_rfl)) ?_
 intro G_17 w_18 hG rG bG
 have hprev := st7.go HS7.out (bG.mono hG)
 obtain ⟨S8, hSd⟩ : ∃ S : World → Prop, S = (fun W => S7 W ∧ Row W G_17 47 (mtsC [mvE G_8]).toArray) := ⟨_, rfl⟩
 have st8 : St S8 := by rw [hSd]; infer_instance
 have D8 : Hid (∀ W, S8 W → S7 W) := by show ∀ W, _; rw [hSd]; exact fun W h => h.1
 have F_M1 : Hid (∀ W, S8 W → Row W G_17 47 (mtsC [mvE G_8]).toArray) := by show ∀ W, _; rw [hSd]; exact fun W h => h.2
 have HS8 : Hid (S8 w_18) := by show S8 w_18; rw [hSd]; exact ⟨hprev, rG⟩
 clear hSd
 clear hprev HS7 hG rG bG
 go_wp2_with (refine at_alloc _ rfl ?_)
 refine Stop.to ?_
 refine wpList_alloc_gen rfl 31 rfl _ _ (zero_cp _) rfl ?_
 intro G_19 w_20 hG rG bG
 go_wp2_with (refine at_store _ _ _ rfl ?_)
 refine Stop.to ?_
 refine wpList_store_gen rfl 31 _ _ rfl G_19 #[.int .i64 1, .slice (some ⟨G_1, 0, none⟩) 1 1, .slice (some ⟨G_3, 0, none⟩) 3 3, .slice (some ⟨G_15, 0, none⟩) 1 1, .int .i64 9, .slice (some ⟨G_17, 0, none⟩) 1 1, .int .i64 1, .int .i64 0, .int .i64 0] rfl rfl 31 _ rG (by kernel_rfl) rfl (by simp [Value.oneCell']) ?_
 intro w_21 rH oH
 have bH : Below (w_18).heap.size w_18 w_21 := (bG.mono hG).trans (oH.below hG)
 have hprev := st8.go HS8.out (bH)
 obtain ⟨S9, hSd⟩ : ∃ S : World → Prop, S = (fun W => S8 W ∧ Row W G_19 31 #[.int .i64 1, .slice (some ⟨G_1, 0, none⟩) 1 1, .slice (some ⟨G_3, 0, none⟩) 3 3, .slice (some ⟨G_15, 0, none⟩) 1 1, .int .i64 9, .slice (some ⟨G_17, 0, none⟩) 1 1, .int .i64 1, .int .i64 0, .int .i64 0]) := ⟨_, rfl⟩
 have st9 : St S9 := by rw [hSd]; infer_instance
 have D9 : Hid (∀ W, S9 W → S8 W) := by show ∀ W, _; rw [hSd]; exact fun W h => h.1
 have F_C : Hid (∀ W, S9 W → Row W G_19 31 #[.int .i64 1, .slice (some ⟨G_1, 0, none⟩) 1 1, .slice (some ⟨G_3, 0, none⟩) 3 3, .slice (some ⟨G_15, 0, none⟩) 1 1, .int .i64 9, .slice (some ⟨G_17, 0, none⟩) 1 1, .int .i64 1, .int .i64 0, .int .i64 0]) := by show ∀ W, _; rw [hSd]; exact fun W h => h.2
 have HS9 : Hid (S9 w_21) := by show S9 w_21; rw [hSd]; exact ⟨hprev, rH⟩
 clear hSd
 clear hprev HS8 hG rG bG rH oH bH
 have F_okc : Hid (∀ W, S9 W → CpOk W (cE G_1 G_3 G_8 G_13 G_15 G_17)) := by show ∀ W, _; exact fun W hW => cE_ok (F_v1.out _ (D2.out _ (D3.out _ (D4.out _ (D5.out _ (D6.out _ (D7.out _ (D8.out _ (D9.out _ hW))))))))) (F_n1.out _ (D3.out _ (D4.out _ (D5.out _ (D6.out _ (D7.out _ (D8.out _ (D9.out _ hW)))))))) (F_d1.out _ (D5.out _ (D6.out _ (D7.out _ (D8.out _ (D9.out _ hW)))))) (F_t1.out _ (D7.out _ (D8.out _ (D9.out _ hW)))) (F_T1.out _ (D8.out _ (D9.out _ hW))) (F_M1.out _ (D9.out _ hW))
 go_wp2_with (first | (refine wpList_load_row rfl 25 _ rfl G_5 rfl 25 #[.int .i64 1, .slice (some ⟨G_1, 0, none⟩) 1 1, .slice (some ⟨G_3, 0, none⟩) 3 3] (0, 0) _ (F_P.out _ (D4.out _ (D5.out _ (D6.out _ (D7.out _ (D8.out _ (D9.out _ HS9.out))))))) Tryz.underlying25 rfl (by kernel_rfl) ?_) | (refine at_slice _ _ _ rfl ?_))
 refine Stop.to ?_
 refine wpList_slice_gen rfl 22 1 _ rfl 3 (ints [1]).toArray (bs_run Tryz.underlying22 info_iE (by decide) (by decide) (by kernel_rfl)) ?_
 intro G_22 w_23 hG rG bG
 have hprev := st9.go HS9.out (bG.mono hG)
 obtain ⟨S10, hSd⟩ : ∃ S : World → Prop, S = (fun W => S9 W ∧ Row W G_22 3 (ints [1]).toArray) := ⟨_, rfl⟩
 have st10 : St S10 := by rw [hSd]; infer_instance
 have D10 : Hid (∀ W, S10 W → S9 W) := by show ∀ W, _; rw [hSd]; exact fun W h => h.1
 have F_t2 : Hid (∀ W, S10 W → Row W G_22 3 (ints [1]).toArray) := by show ∀ W, _; rw [hSd]; exact fun W h => h.2
 have HS10 : Hid (S10 w_23) := by show S10 w_23; rw [hSd]; exact ⟨hprev, rG⟩
 clear hSd
 clear hprev HS9 hG rG bG
 go_wp2_with (refine at_slice _ _ _ rfl ?_)
 refine Stop.to ?_
 refine wpList_slice_gen rfl 26 1 _ rfl 22 (tstC [tvE G_22]).toArray (bs_run Tryz.underlying26 info_tE (by decide) (by decide) (by kernel_rfl)) ?_
 intro G_24 w_25 hG rG bG
 have hprev := st10.go HS10.out (bG.mono hG)
 obtain ⟨S11, hSd⟩ : ∃ S : World → Prop, S = (fun W => S10 W ∧ Row W G_24 22 (tstC [tvE G_22]).toArray) := ⟨_, rfl⟩
 have st11 : St S11 := by rw [hSd]; infer_instance
 have D11 : Hid (∀ W, S11 W → S10 W) := by show ∀ W, _; rw [hSd]; exact fun W h => h.1
 have F_T2 : Hid (∀ W, S11 W → Row W G_24 22 (tstC [tvE G_22]).toArray) := by show ∀ W, _; rw [hSd]; exact fun W h => h.2
 have HS11 : Hid (S11 w_25) := by show S11 w_25; rw [hSd]; exact ⟨hprev, rG⟩
 clear hSd
 clear hprev HS10 hG rG bG
 go_wp2_with (refine at_alloc _ rfl ?_)
 refine Stop.to ?_
 refine wpList_alloc_gen rfl 31 rfl _ _ (zero_cp _) rfl ?_
 intro G_26 w_27 hG rG bG
 go_wp2_with (refine at_store _ _ _ rfl ?_)
 refine Stop.to ?_
 refine wpList_store_gen rfl 31 _ _ rfl G_26 #[.int .i64 1, .slice (some ⟨G_1, 0, none⟩) 1 1, .slice (some ⟨G_3, 0, none⟩) 3 3, .slice (some ⟨G_24, 0, none⟩) 1 1, .int .i64 9, .slice none 0 0, .int .i64 0, .int .i64 0, .int .i64 0] rfl rfl 31 _ rG (by kernel_rfl) rfl (by simp [Value.oneCell']) ?_
 intro w_28 rH oH
 have bH : Below (w_25).heap.size w_25 w_28 := (bG.mono hG).trans (oH.below hG)
 have hGD : w.heap.size ≤ G_26 := Nat.le_trans (F_low.out _ (D1.out _ (D2.out _ (D3.out _ (D4.out _ (D5.out _ (D6.out _ (D7.out _ (D8.out _ (D9.out _ (D10.out _ (D11.out _ HS11.out)))))))))))).size hG
 have hprev := st11.go HS11.out (bH)
 obtain ⟨S12, hSd⟩ : ∃ S : World → Prop, S = (fun W => S11 W ∧ Row W G_26 31 #[.int .i64 1, .slice (some ⟨G_1, 0, none⟩) 1 1, .slice (some ⟨G_3, 0, none⟩) 3 3, .slice (some ⟨G_24, 0, none⟩) 1 1, .int .i64 9, .slice none 0 0, .int .i64 0, .int .i64 0, .int .i64 0]) := ⟨_, rfl⟩
 have st12 : St S12 := by rw [hSd]; infer_instance
 have D12 : Hid (∀ W, S12 W → S11 W) := by show ∀ W, _; rw [hSd]; exact fun W h => h.1
 have F_D : Hid (∀ W, S12 W → Row W G_26 31 #[.int .i64 1, .slice (some ⟨G_1, 0, none⟩) 1 1, .slice (some ⟨G_3, 0, none⟩) 3 3, .slice (some ⟨G_24, 0, none⟩) 1 1, .int .i64 9, .slice none 0 0, .int .i64 0, .int .i64 0, .int .i64 0]) := by show ∀ W, _; rw [hSd]; exact fun W h => h.2
 have HS12 : Hid (S12 w_28) := by show S12 w_28; rw [hSd]; exact ⟨hprev, rH⟩
 clear hSd
 clear hprev HS11 hG rG bG rH oH bH
 have F_okd : Hid (∀ W, S12 W → CpOk W (dE G_1 G_3 G_22 G_24 9)) := by show ∀ W, _; exact fun W hW => dE_ok (F_v1.out _ (D2.out _ (D3.out _ (D4.out _ (D5.out _ (D6.out _ (D7.out _ (D8.out _ (D9.out _ (D10.out _ (D11.out _ (D12.out _ hW)))))))))))) (F_n1.out _ (D3.out _ (D4.out _ (D5.out _ (D6.out _ (D7.out _ (D8.out _ (D9.out _ (D10.out _ (D11.out _ (D12.out _ hW))))))))))) (F_t2.out _ (D11.out _ (D12.out _ hW))) (F_T2.out _ (D12.out _ hW))
 go_wp2_with (first | (refine wpList_load_row rfl 31 _ rfl G_26 rfl 31 #[.int .i64 1, .slice (some ⟨G_1, 0, none⟩) 1 1, .slice (some ⟨G_3, 0, none⟩) 3 3, .slice (some ⟨G_24, 0, none⟩) 1 1, .int .i64 9, .slice none 0 0, .int .i64 0, .int .i64 0, .int .i64 0] (0, 0) _ (F_D.out _ HS12.out) Tryz.underlying31 rfl (by kernel_rfl) ?_) | (refine wpList_load_row rfl 31 _ rfl G_19 rfl 31 #[.int .i64 1, .slice (some ⟨G_1, 0, none⟩) 1 1, .slice (some ⟨G_3, 0, none⟩) 3 3, .slice (some ⟨G_15, 0, none⟩) 1 1, .int .i64 9, .slice (some ⟨G_17, 0, none⟩) 1 1, .int .i64 1, .int .i64 0, .int .i64 0] (0, 0) _ (F_C.out _ (D10.out _ (D11.out _ (D12.out _ HS12.out)))) Tryz.underlying31 rfl (by kernel_rfl) ?_))
 refine (merge_any (dE G_1 G_3 G_22 G_24 9) (cE G_1 G_3 G_8 G_13 G_15 G_17) w_28 (F_okd.out _ HS12.out) (F_okc.out _ (D10.out _ (D11.out _ (D12.out _ HS12.out))))).mono ?_
 rintro e w_29 ⟨cx, rfl, hcx, hdx, bb, htx⟩
 rw [mgZ_0 (joinsE _ _ _ _ _ _ _ _), mergeE_E] at hdx
 have Hdx := Lib.hid hdx
 clear hdx
 rw [mergeE_0.2 (joinsE _ _ _ _ _ _ _ _)]
 have hprev := st12.go HS12.out (bb)
 obtain ⟨S13, hSd⟩ : ∃ S : World → Prop, S = (fun W => S12 W ∧ CpOk W cx ∧ CpT W cx) := ⟨_, rfl⟩
 have st13 : St S13 := by rw [hSd]; infer_instance
 have D13 : Hid (∀ W, S13 W → S12 W) := by show ∀ W, _; rw [hSd]; exact fun W h => h.1
 have F_okx : Hid (∀ W, S13 W → CpOk W cx) := by show ∀ W, _; rw [hSd]; exact fun W h => h.2.1
 have F_tx : Hid (∀ W, S13 W → CpT W cx) := by show ∀ W, _; rw [hSd]; exact fun W h => h.2.2
 have HS13 : Hid (S13 w_29) := by show S13 w_29; rw [hSd]; exact ⟨hprev, hcx, htx⟩
 clear hSd
 clear hprev HS12 bb hcx htx
 go_wp2_with (refine at_alloc _ rfl ?_)
 refine Stop.to ?_
 refine wpList_alloc_gen rfl 31 rfl _ _ (zero_cp _) rfl ?_
 intro G_30 w_31 hG rG bG
 go_wp2_with (refine at_store _ _ _ rfl ?_)
 refine Stop.to ?_
 refine wpList_store_gen rfl 31 _ _ rfl G_30 cx.cells rfl rfl 31 _ rG (by kernel_rfl) rfl (by simp [CpV.cells, Value.oneCell']) ?_
 intro w_32 rH oH
 have bH : Below (w_29).heap.size w_29 w_32 := (bG.mono hG).trans (oH.below hG)
 have hXD : G_30 ≠ G_26 := Nat.ne_of_gt (Nat.lt_of_lt_of_le (F_D.out _ (D13.out _ HS13.out)).lt hG)
 have hprev := st13.go HS13.out (bH)
 obtain ⟨S14, hSd⟩ : ∃ S : World → Prop, S = (fun W => S13 W ∧ Row W G_30 31 cx.cells) := ⟨_, rfl⟩
 have st14 : St S14 := by rw [hSd]; infer_instance
 have D14 : Hid (∀ W, S14 W → S13 W) := by show ∀ W, _; rw [hSd]; exact fun W h => h.1
 have F_X : Hid (∀ W, S14 W → Row W G_30 31 cx.cells) := by show ∀ W, _; rw [hSd]; exact fun W h => h.2
 have HS14 : Hid (S14 w_32) := by show S14 w_32; rw [hSd]; exact ⟨hprev, rH⟩
 clear hSd
 clear hprev HS13 hG rG bG rH oH bH
 go_wp2_with (first | (refine wpList_load_row rfl 31 _ rfl G_19 rfl 31 #[.int .i64 1, .slice (some ⟨G_1, 0, none⟩) 1 1, .slice (some ⟨G_3, 0, none⟩) 3 3, .slice (some ⟨G_15, 0, none⟩) 1 1, .int .i64 9, .slice (some ⟨G_17, 0, none⟩) 1 1, .int .i64 1, .int .i64 0, .int .i64 0] (0, 0) _ (F_C.out _ (D10.out _ (D11.out _ (D12.out _ (D13.out _ (D14.out _ HS14.out)))))) Tryz.underlying31 rfl (by kernel_rfl) ?_) | (refine wpList_load_row rfl 31 _ rfl G_26 rfl 31 #[.int .i64 1, .slice (some ⟨G_1, 0, none⟩) 1 1, .slice (some ⟨G_3, 0, none⟩) 3 3, .slice (some ⟨G_24, 0, none⟩) 1 1, .int .i64 9, .slice none 0 0, .int .i64 0, .int .i64 0, .int .i64 0] (0, 0) _ (F_D.out _ (D13.out _ (D14.out _ HS14.out))) Tryz.underlying31 rfl (by kernel_rfl) ?_))
 refine (diff_any (cE G_1 G_3 G_8 G_13 G_15 G_17) (dE G_1 G_3 G_22 G_24 9) w_32 (F_okc.out _ (D10.out _ (D11.out _ (D12.out _ (D13.out _ (D14.out _ HS14.out)))))) (F_okd.out _ (D13.out _ (D14.out _ HS14.out)))).mono ?_
 rintro e w_33 ⟨A, cap, cs, rfl, hrd, hle, hni, -, hcs, bb, hrt⟩
 rw [diffE_E, if_pos rfl] at hcs
 rw [diffE_E]
 rw [show diffL (CpV.muts (cE G_1 G_3 G_8 G_13 G_15 G_17)) (CpV.muts (dE G_1 G_3 G_22 G_24 9)) = [(⟨[0], 5, 0⟩, 0, -1)] from diffL_E] at hcs
 obtain ⟨ch, rfl⟩ : ∃ ch, cs = [ch] := by
  have h9 := congrArg List.length hcs
  match cs, h9 with
  | [ch], _ => exact ⟨ch, rfl⟩
 have Hch : Hid (ch.a = 0 ∧ ch.b = -1) := by
  have h9 : ChV.data ch = (⟨[0], 5, 0⟩, 0, -1) := by simpa using hcs
  exact ⟨congrArg (fun x => x.2.1) h9, congrArg (fun x => x.2.2) h9⟩
 clear hcs
 have hprev := st14.go HS14.out (bb)
 obtain ⟨S15, hSd⟩ : ∃ S : World → Prop, S = (fun W => S14 W ∧ Rd W A (chsC [ch]) ∧ RowB W 51 A) := ⟨_, rfl⟩
 have st15 : St S15 := by rw [hSd]; infer_instance
 have D15 : Hid (∀ W, S15 W → S14 W) := by show ∀ W, _; rw [hSd]; exact fun W h => h.1
 have F_rdl : Hid (∀ W, S15 W → Rd W A (chsC [ch])) := by show ∀ W, _; rw [hSd]; exact fun W h => h.2.1
 have F_tl : Hid (∀ W, S15 W → RowB W 51 A) := by show ∀ W, _; rw [hSd]; exact fun W h => h.2.2
 have HS15 : Hid (S15 w_33) := by show S15 w_33; rw [hSd]; exact ⟨hprev, hrd, hrt⟩
 clear hSd
 clear hprev HS14 bb hrd hle hni hrt
 go_wp2_with (refine at_store _ _ _ rfl ?_)
 refine Stop.to ?_
 refine wpList_store_part rfl 3 _ _ rfl G_26 4 rfl (.int .i64 8) rfl [.int .i64 8] rfl 31 _ #[.int .i64 1, .slice (some ⟨G_1, 0, none⟩) 1 1, .slice (some ⟨G_3, 0, none⟩) 3 3, .slice (some ⟨G_24, 0, none⟩) 1 1, .int .i64 8, .slice none 0 0, .int .i64 0, .int .i64 0, .int .i64 0] (F_D.out _ (D13.out _ (D14.out _ (D15.out _ HS15.out)))) (by kernel_rfl) (by show 4 + 1 ≤ 9; omega) (by simp [Value.oneCell']) rfl ?_
 intro w_34 rD8 oD
 have hne : ∀ (i : Nat) (t : TypeId) (cs : Array Value), Row w_33 i t cs → t ≠ 31 → i ≠ G_26 := fun i t cs hr ht e => by
  have h9 : (w_33).heap[G_26]? = some (.cells cs t (0, 0)) := by rw [← e]; exact hr
  rw [show (w_33).heap[G_26]? = some (.cells _ 31 (0, 0)) from (F_D.out _ (D13.out _ (D14.out _ (D15.out _ HS15.out))))] at h9
  injection h9 with h9; injection h9 with _ h9; exact ht h9.symm
 have hCD : G_19 ≠ G_26 := by
  intro e
  have h1 := (F_C.out _ (D10.out _ (D11.out _ (D12.out _ (D13.out _ (D14.out _ (D15.out _ HS15.out))))))).cellv (i := 5) (v := .slice (some ⟨G_17, 0, none⟩) 1 1) rfl
  rw [e, (F_D.out _ (D13.out _ (D14.out _ (D15.out _ HS15.out)))).cellv (i := 5) (v := .slice none 0 0) rfl] at h1
  cases h1
 obtain ⟨S16, hSd⟩ : ∃ S : World → Prop, S = (fun W => Below w.heap.size w W ∧ Row W G_1 3 (ints [0]).toArray ∧ Row W G_3 74 (bodyE.flatMap Nd.cells).toArray ∧ Row W G_8 3 (ints [0]).toArray ∧ Row W G_13 3 (ints [1]).toArray ∧ Row W G_15 22 (tstC [tvE G_13]).toArray ∧ Row W G_17 47 (mtsC [mvE G_8]).toArray ∧ Row W G_22 3 (ints [1]).toArray ∧ Row W G_24 22 (tstC [tvE G_22]).toArray ∧ Row W G_19 31 #[.int .i64 1, .slice (some ⟨G_1, 0, none⟩) 1 1, .slice (some ⟨G_3, 0, none⟩) 3 3, .slice (some ⟨G_15, 0, none⟩) 1 1, .int .i64 9, .slice (some ⟨G_17, 0, none⟩) 1 1, .int .i64 1, .int .i64 0, .int .i64 0] ∧ Row W G_30 31 cx.cells ∧ Row W G_26 31 #[.int .i64 1, .slice (some ⟨G_1, 0, none⟩) 1 1, .slice (some ⟨G_3, 0, none⟩) 3 3, .slice (some ⟨G_24, 0, none⟩) 1 1, .int .i64 8, .slice none 0 0, .int .i64 0, .int .i64 0, .int .i64 0] ∧ CpOk W cx ∧ Rd W A (chsC [ch])) := ⟨_, rfl⟩
 have st16 : St S16 := by rw [hSd]; infer_instance
 have F_low2 : Hid (∀ W, S16 W → Below w.heap.size w W) := by show ∀ W, _; rw [hSd]; exact fun W h => h.1
 have F_v1x : Hid (∀ W, S16 W → Row W G_1 3 (ints [0]).toArray) := by show ∀ W, _; rw [hSd]; exact fun W h => h.2.1
 have F_n1x : Hid (∀ W, S16 W → Row W G_3 74 (bodyE.flatMap Nd.cells).toArray) := by show ∀ W, _; rw [hSd]; exact fun W h => h.2.2.1
 have F_d1x : Hid (∀ W, S16 W → Row W G_8 3 (ints [0]).toArray) := by show ∀ W, _; rw [hSd]; exact fun W h => h.2.2.2.1
 have F_t1x : Hid (∀ W, S16 W → Row W G_13 3 (ints [1]).toArray) := by show ∀ W, _; rw [hSd]; exact fun W h => h.2.2.2.2.1
 have F_T1x : Hid (∀ W, S16 W → Row W G_15 22 (tstC [tvE G_13]).toArray) := by show ∀ W, _; rw [hSd]; exact fun W h => h.2.2.2.2.2.1
 have F_M1x : Hid (∀ W, S16 W → Row W G_17 47 (mtsC [mvE G_8]).toArray) := by show ∀ W, _; rw [hSd]; exact fun W h => h.2.2.2.2.2.2.1
 have F_t2x : Hid (∀ W, S16 W → Row W G_22 3 (ints [1]).toArray) := by show ∀ W, _; rw [hSd]; exact fun W h => h.2.2.2.2.2.2.2.1
 have F_T2x : Hid (∀ W, S16 W → Row W G_24 22 (tstC [tvE G_22]).toArray) := by show ∀ W, _; rw [hSd]; exact fun W h => h.2.2.2.2.2.2.2.2.1
 have F_Cx : Hid (∀ W, S16 W → Row W G_19 31 #[.int .i64 1, .slice (some ⟨G_1, 0, none⟩) 1 1, .slice (some ⟨G_3, 0, none⟩) 3 3, .slice (some ⟨G_15, 0, none⟩) 1 1, .int .i64 9, .slice (some ⟨G_17, 0, none⟩) 1 1, .int .i64 1, .int .i64 0, .int .i64 0]) := by show ∀ W, _; rw [hSd]; exact fun W h => h.2.2.2.2.2.2.2.2.2.1
 have F_Xx : Hid (∀ W, S16 W → Row W G_30 31 cx.cells) := by show ∀ W, _; rw [hSd]; exact fun W h => h.2.2.2.2.2.2.2.2.2.2.1
 have F_Dx : Hid (∀ W, S16 W → Row W G_26 31 #[.int .i64 1, .slice (some ⟨G_1, 0, none⟩) 1 1, .slice (some ⟨G_3, 0, none⟩) 3 3, .slice (some ⟨G_24, 0, none⟩) 1 1, .int .i64 8, .slice none 0 0, .int .i64 0, .int .i64 0, .int .i64 0]) := by show ∀ W, _; rw [hSd]; exact fun W h => h.2.2.2.2.2.2.2.2.2.2.2.1
 have F_okxx : Hid (∀ W, S16 W → CpOk W cx) := by show ∀ W, _; rw [hSd]; exact fun W h => h.2.2.2.2.2.2.2.2.2.2.2.2.1
 have F_rdlx : Hid (∀ W, S16 W → Rd W A (chsC [ch])) := by show ∀ W, _; rw [hSd]; exact fun W h => h.2.2.2.2.2.2.2.2.2.2.2.2.2
 have HS16 : Hid (S16 w_34) := by show S16 w_34; rw [hSd]; exact ⟨below_only (F_low.out _ (D1.out _ (D2.out _ (D3.out _ (D4.out _ (D5.out _ (D6.out _ (D7.out _ (D8.out _ (D9.out _ (D10.out _ (D11.out _ (D12.out _ (D13.out _ (D14.out _ (D15.out _ HS15.out)))))))))))))))) oD hGD, (F_v1.out _ (D2.out _ (D3.out _ (D4.out _ (D5.out _ (D6.out _ (D7.out _ (D8.out _ (D9.out _ (D10.out _ (D11.out _ (D12.out _ (D13.out _ (D14.out _ (D15.out _ HS15.out))))))))))))))).only oD (hne _ _ _ (F_v1.out _ (D2.out _ (D3.out _ (D4.out _ (D5.out _ (D6.out _ (D7.out _ (D8.out _ (D9.out _ (D10.out _ (D11.out _ (D12.out _ (D13.out _ (D14.out _ (D15.out _ HS15.out))))))))))))))) (by decide)), (F_n1.out _ (D3.out _ (D4.out _ (D5.out _ (D6.out _ (D7.out _ (D8.out _ (D9.out _ (D10.out _ (D11.out _ (D12.out _ (D13.out _ (D14.out _ (D15.out _ HS15.out)))))))))))))).only oD (hne _ _ _ (F_n1.out _ (D3.out _ (D4.out _ (D5.out _ (D6.out _ (D7.out _ (D8.out _ (D9.out _ (D10.out _ (D11.out _ (D12.out _ (D13.out _ (D14.out _ (D15.out _ HS15.out)))))))))))))) (by decide)), (F_d1.out _ (D5.out _ (D6.out _ (D7.out _ (D8.out _ (D9.out _ (D10.out _ (D11.out _ (D12.out _ (D13.out _ (D14.out _ (D15.out _ HS15.out)))))))))))).only oD (hne _ _ _ (F_d1.out _ (D5.out _ (D6.out _ (D7.out _ (D8.out _ (D9.out _ (D10.out _ (D11.out _ (D12.out _ (D13.out _ (D14.out _ (D15.out _ HS15.out)))))))))))) (by decide)), (F_t1.out _ (D7.out _ (D8.out _ (D9.out _ (D10.out _ (D11.out _ (D12.out _ (D13.out _ (D14.out _ (D15.out _ HS15.out)))))))))).only oD (hne _ _ _ (F_t1.out _ (D7.out _ (D8.out _ (D9.out _ (D10.out _ (D11.out _ (D12.out _ (D13.out _ (D14.out _ (D15.out _ HS15.out)))))))))) (by decide)), (F_T1.out _ (D8.out _ (D9.out _ (D10.out _ (D11.out _ (D12.out _ (D13.out _ (D14.out _ (D15.out _ HS15.out))))))))).only oD (hne _ _ _ (F_T1.out _ (D8.out _ (D9.out _ (D10.out _ (D11.out _ (D12.out _ (D13.out _ (D14.out _ (D15.out _ HS15.out))))))))) (by decide)), (F_M1.out _ (D9.out _ (D10.out _ (D11.out _ (D12.out _ (D13.out _ (D14.out _ (D15.out _ HS15.out)))))))).only oD (hne _ _ _ (F_M1.out _ (D9.out _ (D10.out _ (D11.out _ (D12.out _ (D13.out _ (D14.out _ (D15.out _ HS15.out)))))))) (by decide)), (F_t2.out _ (D11.out _ (D12.out _ (D13.out _ (D14.out _ (D15.out _ HS15.out)))))).only oD (hne _ _ _ (F_t2.out _ (D11.out _ (D12.out _ (D13.out _ (D14.out _ (D15.out _ HS15.out)))))) (by decide)), (F_T2.out _ (D12.out _ (D13.out _ (D14.out _ (D15.out _ HS15.out))))).only oD (hne _ _ _ (F_T2.out _ (D12.out _ (D13.out _ (D14.out _ (D15.out _ HS15.out))))) (by decide)), (F_C.out _ (D10.out _ (D11.out _ (D12.out _ (D13.out _ (D14.out _ (D15.out _ HS15.out))))))).only oD hCD, (F_X.out _ (D15.out _ HS15.out)).only oD hXD, rD8, (F_okx.out _ (D14.out _ (D15.out _ HS15.out))).onlyT (F_tx.out _ (D14.out _ (D15.out _ HS15.out))) oD (F_D.out _ (D13.out _ (D14.out _ (D15.out _ HS15.out)))), (F_rdl.out _ HS15.out).only oD (fun _ ad e => by obtain ⟨_, h⟩ := (F_tl.out _ HS15.out) ad e; exact hne _ _ _ h (by decide))⟩
 clear hSd
 clear hne hCD hXD rD8 oD HS15
 have F_okc8 : Hid (∀ W, S16 W → CpOk W (cE G_1 G_3 G_8 G_13 G_15 G_17)) := by show ∀ W, _; exact fun W hW => cE_ok (F_v1x.out _ hW) (F_n1x.out _ hW) (F_d1x.out _ hW) (F_t1x.out _ hW) (F_T1x.out _ hW) (F_M1x.out _ hW)
 have F_okd8 : Hid (∀ W, S16 W → CpOk W (dE G_1 G_3 G_22 G_24 8)) := by show ∀ W, _; exact fun W hW => dE_ok (F_v1x.out _ hW) (F_n1x.out _ hW) (F_t2x.out _ hW) (F_T2x.out _ hW)
 go_wp2_with (first | (refine wpList_load_row rfl 31 _ rfl G_26 rfl 31 #[.int .i64 1, .slice (some ⟨G_1, 0, none⟩) 1 1, .slice (some ⟨G_3, 0, none⟩) 3 3, .slice (some ⟨G_24, 0, none⟩) 1 1, .int .i64 8, .slice none 0 0, .int .i64 0, .int .i64 0, .int .i64 0] (0, 0) _ (F_Dx.out _ HS16.out) Tryz.underlying31 rfl (by kernel_rfl) ?_) | (refine wpList_load_row rfl 31 _ rfl G_19 rfl 31 #[.int .i64 1, .slice (some ⟨G_1, 0, none⟩) 1 1, .slice (some ⟨G_3, 0, none⟩) 3 3, .slice (some ⟨G_15, 0, none⟩) 1 1, .int .i64 9, .slice (some ⟨G_17, 0, none⟩) 1 1, .int .i64 1, .int .i64 0, .int .i64 0] (0, 0) _ (F_Cx.out _ HS16.out) Tryz.underlying31 rfl (by kernel_rfl) ?_))
 refine (merge_any (dE G_1 G_3 G_22 G_24 8) (cE G_1 G_3 G_8 G_13 G_15 G_17) w_34 (F_okd8.out _ HS16.out) (F_okc8.out _ HS16.out)).mono ?_
 rintro e w_35 ⟨cy, rfl, -, -, bb, -⟩
 rw [mergeE_8]
 have hprev := st16.go HS16.out (bb)
 replace HS16 := Lib.hid hprev
 clear hprev bb
 go_wp2_with (refine at_alloc _ rfl ?_)
 refine Stop.to ?_
 refine wpList_alloc_gen rfl 31 rfl _ _ (zero_cp _) rfl ?_
 intro G_36 w_37 hG rG bG
 go_wp2_with (refine at_store _ _ _ rfl ?_)
 refine Stop.to ?_
 refine wpList_store_gen rfl 31 _ _ rfl G_36 cy.cells rfl rfl 31 _ rG (by kernel_rfl) rfl (by simp [CpV.cells, Value.oneCell']) ?_
 intro w_38 rH oH
 have bH : Below (w_35).heap.size w_35 w_38 := (bG.mono hG).trans (oH.below hG)
 have hprev := st16.go HS16.out (bH)
 obtain ⟨S17, hSd⟩ : ∃ S : World → Prop, S = (fun W => S16 W ∧ Row W G_36 31 cy.cells) := ⟨_, rfl⟩
 have st17 : St S17 := by rw [hSd]; infer_instance
 have D17 : Hid (∀ W, S17 W → S16 W) := by show ∀ W, _; rw [hSd]; exact fun W h => h.1
 have F_Y : Hid (∀ W, S17 W → Row W G_36 31 cy.cells) := by show ∀ W, _; rw [hSd]; exact fun W h => h.2
 have HS17 : Hid (S17 w_38) := by show S17 w_38; rw [hSd]; exact ⟨hprev, rH⟩
 clear hSd
 clear hprev HS16 hG rG bG rH oH bH
 go_wp2_with (refine wpList_load_row rfl 31 _ rfl G_19 rfl 31 #[.int .i64 1, .slice (some ⟨G_1, 0, none⟩) 1 1, .slice (some ⟨G_3, 0, none⟩) 3 3, .slice (some ⟨G_15, 0, none⟩) 1 1, .int .i64 9, .slice (some ⟨G_17, 0, none⟩) 1 1, .int .i64 1, .int .i64 0, .int .i64 0] (0, 0) _ (F_Cx.out _ (D17.out _ HS17.out)) Tryz.underlying31 rfl (by kernel_rfl) ?_)
 refine (merge_any cp0 (cE G_1 G_3 G_8 G_13 G_15 G_17) w_38 (cp0_ok _) (F_okc8.out _ (D17.out _ HS17.out))).mono ?_
 rintro e w_39 ⟨cz, rfl, -, -, bb, -⟩
 rw [mergeE_z]
 have hprev := st17.go HS17.out (bb)
 replace HS17 := Lib.hid hprev
 clear hprev bb
 go_wp2_with (refine at_alloc _ rfl ?_)
 refine Stop.to ?_
 refine wpList_alloc_gen rfl 31 rfl _ _ (zero_cp _) rfl ?_
 intro G_40 w_41 hG rG bG
 go_wp2_with (refine at_store _ _ _ rfl ?_)
 refine Stop.to ?_
 refine wpList_store_gen rfl 31 _ _ rfl G_40 cz.cells rfl rfl 31 _ rG (by kernel_rfl) rfl (by simp [CpV.cells, Value.oneCell']) ?_
 intro w_42 rH oH
 have bH : Below (w_39).heap.size w_39 w_42 := (bG.mono hG).trans (oH.below hG)
 have hprev := st17.go HS17.out (bH)
 obtain ⟨S18, hSd⟩ : ∃ S : World → Prop, S = (fun W => S17 W ∧ Row W G_40 31 cz.cells) := ⟨_, rfl⟩
 have st18 : St S18 := by rw [hSd]; infer_instance
 have D18 : Hid (∀ W, S18 W → S17 W) := by show ∀ W, _; rw [hSd]; exact fun W h => h.1
 have F_Z : Hid (∀ W, S18 W → Row W G_40 31 cz.cells) := by show ∀ W, _; rw [hSd]; exact fun W h => h.2
 have HS18 : Hid (S18 w_42) := by show S18 w_42; rw [hSd]; exact ⟨hprev, rH⟩
 clear hSd
 clear hprev HS17 hG rG bG rH oH bH
 go_wp2_with (first | (refine wpList_load_row rfl 31 _ rfl G_30 rfl 31 cx.cells (0, 0) _ (F_Xx.out _ (D17.out _ (D18.out _ HS18.out))) Tryz.underlying31 rfl (by kernel_rfl) ?_) | (refine wpList_load_row rfl 31 _ rfl G_19 rfl 31 #[.int .i64 1, .slice (some ⟨G_1, 0, none⟩) 1 1, .slice (some ⟨G_3, 0, none⟩) 3 3, .slice (some ⟨G_15, 0, none⟩) 1 1, .int .i64 9, .slice (some ⟨G_17, 0, none⟩) 1 1, .int .i64 1, .int .i64 0, .int .i64 0] (0, 0) _ (F_Cx.out _ (D17.out _ (D18.out _ HS18.out))) Tryz.underlying31 rfl (by kernel_rfl) ?_))
 refine (refCpSame_any cx (cE G_1 G_3 G_8 G_13 G_15 G_17) w_42 (F_okxx.out _ (D17.out _ (D18.out _ HS18.out))) (F_okc8.out _ (D17.out _ (D18.out _ HS18.out)))).mono ?_
 rintro e w_43 ⟨rfl, bb⟩
 rw [show sameC cx (cE G_1 G_3 G_8 G_13 G_15 G_17) = true from sameC_iff.2 Hdx.out]
 have hprev := st18.go HS18.out (bb)
 replace HS18 := Lib.hid hprev
 clear hprev bb
 obtain ⟨ad, had, _⟩ := chV_at (l := [ch]) (F_rdlx.out _ (D17.out _ (D18.out _ HS18.out))) (k := 0) rfl
 have c3 : (w_43).cell? ⟨ad.block, ad.off + 3, none⟩ = some (.int .i64 0) := by
  obtain ⟨ad2, e2, h2⟩ := chV_at (l := [ch]) (F_rdlx.out _ (D17.out _ (D18.out _ HS18.out))) (k := 0) rfl
  rw [had] at e2; injection e2 with e2; subst e2
  have h3 := h2 3 (.int .i64 ch.a) rfl
  rw [Hch.out.1] at h3; exact h3
 have c4 : (w_43).cell? ⟨ad.block, ad.off + 4, none⟩ = some (.int .i64 (-1)) := by
  obtain ⟨ad2, e2, h2⟩ := chV_at (l := [ch]) (F_rdlx.out _ (D17.out _ (D18.out _ HS18.out))) (k := 0) rfl
  rw [had] at e2; injection e2 with e2; subst e2
  have h3 := h2 4 (.int .i64 ch.b) rfl
  rw [Hch.out.2] at h3; exact h3
 subst had
 go_wp2_with fail
 go_ret
 exact ⟨rfl, (F_low2.out _ (D17.out _ (D18.out _ HS18.out)))⟩
end Go.Proofs.YtcgglolckkeeiaaGreat
namespace Go.Proofs.YtcgglolckkeeiaaGreat
set_option linter.unusedVariables false
open Go.RowKit Go.Deep
theorem wp_cutG2 {P : Program} {c : Code} {a : Act} {w : World} {Q : Exit → Act → World → Prop} {F : Nat → Nat → World → Prop} {f : Nat → Nat → Act}
 (hreg : c.wp P (Ends fun _ a' w' => ∃ D E : Nat, a' = f D E ∧ F D E w') a w) (cont : ∀ D E w', F D E w' → Q .normal (f D E) w') : c.wp P Q a w :=
 Code.wp_mono (fun e a' w' h => by
  cases e with
  | normal =>
   obtain ⟨D, E, rfl, hF⟩ := (h : ∃ D E : Nat, a' = f D E ∧ F D E w')
   exact cont _ _ _ hF
  | _ => exact (h : False).elim) hreg
theorem eql_sc (a b c : Int) (W : World) : (binOp .eql 29 (.agg #[.int .i64 a, .int .i64 b, .int .i64 c]) (.agg #[.int .i64 a, .int .i64 b, .int .i64 c])).run Tryz.prog W = .ok (.bool true) W := by
 simp [go_sem]
def cpM (c : CpV) (v : Value) (s : Sc) : Array Value := #[.int .i64 c.p.params, .slice c.p.va c.p.V.length c.p.vcap, .slice c.p.ba c.p.body.length c.p.bcap, .slice c.tA c.tests.length c.tcap, .int .i64 c.fuel, v, .int .i64 s.alive, .int .i64 s.killed, .int .i64 s.timeout]
theorem cpM_cell {W : World} {D : Nat} {t : TypeId} {c : CpV} {v : Value} {s : Sc} (h : Row W D t (cpM c v s)) : W.cell? ⟨D, 5, none⟩ = some v := h.cellv (i := 5) rfl
structure PushR (w0 : World) (D E : Nat) (c : CpV) (u : Value) (ds es : List MtV) (cE : Array Value) (v3 : Value) (W : World) : Prop where
 bw : Below w0.heap.size w0 W
 rD : Row W D 31 (cpM c v3 c.sc)
 rE : Row W E 31 cE
 oD : W.ownsRow w0.heap.size 47 8 v3 ds.length (mtsC ds)
 oE : W.ownsRow w0.heap.size 47 8 u es.length (mtsC es)
 ne : ∀ g, v3.ownBlock = some g → u.ownBlock ≠ some g
theorem own_kept_ne {w w' : World} {base size n : Nat} {e : TypeId} {v : Value} {xs : List Value} {row : Option Nat} (h : w.ownsRow base e size v n xs) (hg : w.grownBy w' row) (hne : ∀ g, v.ownBlock = some g → row ≠ some g) : w'.ownsRow base e size v n xs := by
 refine h.kept hg ?_
 cases row with
 | none => cases v.ownBlock <;> simp
 | some r => exact .inr (fun e => hne r e rfl)
theorem mt_push {w0 V V2 : World} {D E M2 : Nat} {v u : Value} {ds es : List MtV} {c : CpV} {cE : Array Value} (y : MtV) (h : PushR w0 D E c u ds es cE v V) (hDE : D ≠ E) (hD : w0.heap.size ≤ D) (hn : ds.length ≤ 100000) (bm : Below V.heap.size V V2) (Mr : Row V2 M2 47 y.cells.toArray) :
 ∃ A3 c3 V3, (Builtin.append_ #[27, 27] 27 #[v, .slice (some ⟨M2, 0, none⟩) 1 1]).run Tryz.prog V2 = .ok (.slice A3 (ds.length + 1) c3) V3 ∧ (Below w0.heap.size w0 V3 ∧ Row V3 D 31 (cpM c v c.sc)) ∧ PushR w0 D E c u (ds ++ [y]) es cE (.slice A3 (ds.length + 1) c3) (V3.setCell ⟨D, 5, none⟩ (.slice A3 (ds.length + 1) c3)) := by
 have own2 := own_below h.oD bm
 have ownE2 := own_below h.oE bm
 have rD2 := h.rD.below bm h.rD.lt
 have rE2 := h.rE.below bm h.rE.lt
 have hb2 := h.bw.trans (bm.mono h.bw.size)
 obtain ⟨v3, V3, hrun, own3, hgr, hat⟩ := append_rd (P := Tryz.prog) 27 47 (.agg #[.slice none 0 0, .int .i64 0, .int .i64 0, .int .i64 0, .int .i64 0, .int .i64 0, .int .i64 0, .string ByteArray.empty]) 8 88 Tryz.underlying27 info_mt rfl (by decide) (by decide) own2 hb2.size (rd_rowP (cs := y.cells) Mr) (m := 1) (cap := 1) rfl (fun x hx => mtsC_one [y] x (by simpa [mtsC] using hx)) (by simp) (by omega)
 rw [show mtsC ds ++ y.cells = mtsC (ds ++ [y]) by simp [mtsC]] at own3
 have hne2 : ∀ g, u.ownBlock = some g → v.ownBlock ≠ some g := fun g e1 e2 => h.ne g e2 e1
 have ownE3 := own_kept_ne ownE2 hgr hne2
 have rD3 := rD2.grown hgr (own_ne own2 rD2 (by decide))
 have rE3 := rE2.grown hgr (own_ne own2 rE2 (by decide))
 have hb3 := below_grown_own hb2 own2 hgr hb2.size (Nat.le_refl _)
 obtain ⟨A3, c3, rfl⟩ := own_sl own3
 have o4 := only_set V3 D 5 (.slice A3 (ds.length + 1) c3)
 refine ⟨A3, c3, V3, hrun, ⟨hb3, rD3⟩, below_only hb3 o4 hD, ?_, rE3.only o4 (Ne.symm hDE), ?_, own_only ownE3 o4 (own_ne ownE3 rD3 (by decide)), fun g e1 e2 => ?_⟩
 · exact rD3.set 5 (.slice A3 (ds.length + 1) c3)
 · rw [List.length_append]; exact own_only own3 o4 (own_ne own3 rD3 (by decide))
 · rcases hat with e | e
   · rw [e] at e1; exact h.ne g e1 e2
   · rw [e] at e1; injection e1 with e1
     have := (ownE2.lt _ e2).2
     omega
theorem PushR.swap {w0 : World} {D E : Nat} {c : CpV} {u v : Value} {ds es : List MtV} {W : World} (h : PushR w0 D E c u ds es (cpM c u c.sc) v W) : PushR w0 E D c v es ds (cpM c v c.sc) u W := ⟨h.bw, h.rE, h.rD, h.oE, h.oD, fun g e1 e2 => h.ne g e2 e1⟩
def partC (c : CpV) (A : Option Addr) (cap : Nat) (ds : List MtV) : CpV := ⟨c.p, c.tA, c.tcap, c.tests, c.fuel, A, cap, ds, scoreZ (ds.map MtV.m)⟩
theorem partC_part (c : CpV) (A : Option Addr) (cap : Nat) (p : Nat → Bool) (b : Bool) : PartC c (partC c A cap (partL p b 0 c.mts)) p b :=
 ⟨sameS_iff.2 ⟨⟨rfl, rfl, rfl⟩, rfl, rfl⟩, by show (partL p b 0 c.mts).map MtV.m = _; rw [partL_map]; rfl, rfl⟩
theorem partC_ok {c : CpV} {W : World} {A : Option Addr} {cap : Nat} {ds : List MtV} (h : CpOk W c) (hs : ∀ x ∈ ds, x ∈ c.mts) (hl : ds.length ≤ c.mts.length) (hr : Rd W A (mtsC ds)) (hn : A = none → ds = []) : CpOk W (partC c A cap ds) :=
 ⟨h.pok, h.bl, h.vl, h.trd, h.tok, h.tlen, h.tl, h.tnil, hr, fun x hx => h.mok x (hs x hx), Nat.le_trans hl h.mlen, hn⟩
theorem countV_bound (l : List Mt) (v : Int) : 0 ≤ countV l v ∧ countV l v ≤ l.length := by
 unfold countV
 have := List.length_filter_le (fun m : Mt => m.verdict == v) l
 omega
theorem score_small (l : List Mt) (h : l.length ≤ 100000) : (scoreZ l).small := by
 have h0 := countV_bound l 0
 have h1 := countV_bound l 1
 have h2 := countV_bound l 2
 unfold Sc.small scoreZ
 exact ⟨⟨h0.1, by show countV l 0 ≤ _; omega⟩, ⟨h1.1, by show countV l 1 ≤ _; omega⟩, h2.1, by show countV l 2 ≤ _; omega⟩
end Go.Proofs.YtcgglolckkeeiaaGreat
namespace Go.Proofs.YtcgglolckkeeiaaGreat
set_option linter.unusedVariables false
open Go.RowKit Go.Deep
def InZ (d : Dl) (l : List Mt) (p : Int × Int) : Prop := (p = (0, 0) ∧ ∀ m ∈ l, cmpD m.d d ≠ 0) ∨ (p.1 = 1 ∧ ∃ m ∈ l, cmpD m.d d = 0 ∧ p.2 = m.verdict)
theorem InZ.nil (d : Dl) : InZ d [] (0, 0) := .inl ⟨rfl, fun m hm => by simp at hm⟩
theorem InZ.no {d : Dl} {pre l : List Mt} {k : Nat} {m : Mt} {p : Int × Int} (h : InZ d (pre ++ l.take k) p) (hm : l[k]? = some m) (hd : ¬ cmpD m.d d = 0) : InZ d (pre ++ l.take (k + 1)) p := by
 rw [List.take_add_one, hm, ← List.append_assoc]
 rcases h with ⟨h1, h2⟩ | ⟨h1, x, hx, h2⟩
 · refine .inl ⟨h1, fun y hy => ?_⟩
   rcases List.mem_append.1 hy with hy | hy
   · exact h2 y hy
   · simp only [Option.toList_some, List.mem_singleton] at hy
     rw [hy]; exact hd
 · exact .inr ⟨h1, x, List.mem_append.2 (.inl hx), h2⟩
theorem InZ.full {d : Dl} {pre l : List Mt} {p : Int × Int} {n : Nat} (h : InZ d (pre ++ l.take n) p) (hn : l.length ≤ n) : InZ d (pre ++ l) p := by rwa [List.take_of_length_le hn] at h
theorem Joins.verdict {a b x : CpV} (h : Joins a b) (e : x.data = mergeD a.data b.data) {d : Dl} {p : Int × Int} (hp : InZ d (a.muts ++ b.muts) p) {y : Mt} (hy : y ∈ x.muts) (hd : cmpD y.d d = 0) : y.verdict = p.2 := by
 have e6 : x.muts = mergeM a.muts b.muts := congrArg Cd.muts e
 have hm := agreeM_mem h.ha.rise h.hb.rise h.agree
 rcases hp with ⟨_, h2⟩ | ⟨_, m, hmm, h2, h3⟩
 · rw [e6, hm] at hy
   exact absurd hd (h2 y (List.mem_append.2 hy))
 · have hmx : m ∈ mergeM a.muts b.muts := (hm m).2 (List.mem_append.1 hmm)
   rw [e6] at hy
   have := riseM_uniq (mergeM_rise h.ha.rise h.hb.rise) hy hmx (by rw [cmpD_eq.1 h2, cmpD_eq.1 hd, cmpD_self])
   rw [this]; exact h3.symm
theorem diffE_of {a b : CpV} (h1 : OkC a) (h2 : OkC b) (h3 : sameP a.p b.p = true) : diffE a b = 0 := by
 unfold diffE; rw [if_neg (by rw [checks_iff.2 ⟨h1, h2⟩]; simp), if_pos h3]
end Go.Proofs.YtcgglolckkeeiaaGreat
