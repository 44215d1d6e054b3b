/- Lemmas for CoAll. -/
import Derived.Test.YtcgglolckkeeiaaGreatZo28
import Derived.Test.YtcgglolckkeeiaaGreatZo36
set_option linter.unusedVariables false
set_option linter.unusedSimpArgs false
namespace Go.Proofs.YtcgglolckkeeiaaGreat
open Go.RowKit Go.Deep
set_option maxRecDepth 100000 in
set_option maxHeartbeats 16000000 in
theorem campaignBytes_walk (x : MtsV) (s0 : ByteArray) (c : Sc) (t0 : ByteArray) (w : World) (hx : MtsRaw w x) (hc : ScIn c) : Calls Tryz.prog 11 #[x.val, .string s0, .agg c.cells, .string t0] w fun e w' => e = .returned (.bool true) ∧ Below w.heap.size w w' := by
 obtain ⟨s, rfl⟩ := str_list s0
 obtain ⟨t, rfl⟩ := str_list t0
 clear hc
 have hszs : (⟨s.toArray⟩ : ByteArray).size = s.length := by simp [ByteArray.size]
 have hszt : (⟨t.toArray⟩ : ByteArray).size = t.length := by simp [ByteArray.size]
 show Calls _ _ #[.slice x.A x.l.length x.cap, _, .agg #[.int .i64 c.alive, .int .i64 c.killed, .int .i64 c.timeout], _] _ _
 go_enter Tryz.func11, Tryz.ntmps11
 obtain ⟨S0, hSd⟩ : ∃ S : World → Prop, S = (fun W => Below w.heap.size w W ∧ MtsRaw W x) := ⟨_, rfl⟩
 have st0 : St S0 := by rw [hSd]; infer_instance
 have F_low : Hid (∀ W, S0 W → Below w.heap.size w W) := by show ∀ W, _; rw [hSd]; exact fun W h => h.1
 have F_raw : Hid (∀ W, S0 W → MtsRaw W x) := by show ∀ W, _; rw [hSd]; exact fun W h => h.2
 have HS0 : Hid (S0 w) := by show S0 w; rw [hSd]; exact ⟨Below.refl _ _, hx⟩
 clear hSd
 clear hx
 go_wp2_with (refine at_box _ _ rfl ?_)
 refine Stop.to ?_
 refine wpList_box_gen rfl 29 _ rfl #[.int .i64 c.alive, .int .i64 c.killed, .int .i64 c.timeout] rfl ?_
 intro G_1 w_2 hG rG bG
 have hprev := st0.go HS0.out (bG.mono hG)
 obtain ⟨S1, hSd⟩ : ∃ S : World → Prop, S = (fun W => S0 W ∧ Row W G_1 29 #[.int .i64 c.alive, .int .i64 c.killed, .int .i64 c.timeout]) := ⟨_, rfl⟩
 have st1 : St S1 := by rw [hSd]; infer_instance
 have D1 : Hid (∀ W, S1 W → S0 W) := by show ∀ W, _; rw [hSd]; exact fun W h => h.1
 have F_C : Hid (∀ W, S1 W → Row W G_1 29 #[.int .i64 c.alive, .int .i64 c.killed, .int .i64 c.timeout]) := by show ∀ W, _; rw [hSd]; exact fun W h => h.2
 have HS1 : Hid (S1 w_2) := by show S1 w_2; rw [hSd]; exact ⟨hprev, rG⟩
 clear hSd
 clear hprev HS0 hG rG bG
 go_wp2_with fail
 refine (works21_any w_2).mono ?_
 rintro e w_3 ⟨rfl, bb⟩
 have hprev := st1.go HS1.out (bb)
 replace HS1 := Lib.hid hprev
 clear hprev bb
 go_wp2_with fail
 refine (fewM_b x.A x.cap x.l w_3 ((F_raw.out _ (D1.out _ HS1.out))).rd).mono ?_
 rintro e w_4 ⟨rfl, bb⟩
 generalize hq : fewM x.l = q
 have Hq := Lib.hid hq
 clear hq
 have hprev := st1.go HS1.out (bb)
 replace HS1 := Lib.hid hprev
 clear hprev bb
 cases q
 · skip
   go_wp2_with fail
   go_ret
   exact ⟨rfl, (F_low.out _ (D1.out _ HS1.out))⟩
 · skip
   have hlen := fewM_len Hq.out
   by_cases hs : 2000 < (s.length : Int)
   · skip
     go_wp2_with fail
     go_ret
     exact ⟨rfl, (F_low.out _ (D1.out _ HS1.out))⟩
   · skip
     by_cases ht : 2000 < (t.length : Int)
     · skip
       go_wp2_with fail
       go_ret
       exact ⟨rfl, (F_low.out _ (D1.out _ HS1.out))⟩
     · skip
       have hsn : s.length ≤ 2000 := by omega
       have htn : t.length ≤ 2000 := by omega
       obtain ⟨⟨a, ea⟩, hp⟩ : ∃ p, p = putMts (x.l.map MtV.m) := ⟨_, rfl⟩
       obtain ⟨⟨a2, ea2⟩, hp2⟩ : ∃ p, p = putSc c := ⟨_, rfl⟩
       obtain ⟨⟨z, g2⟩, hz2⟩ : ∃ p, p = getSc t := ⟨_, rfl⟩
       have Hp := Lib.hid hp
       have Hp2 := Lib.hid hp2
       have Hz2 := Lib.hid hz2
       clear hp hp2 hz2
       go_wp2_with fail
       refine (putMuts_any x.A x.cap x.l.length x.l w_4 rfl ((F_raw.out _ (D1.out _ HS1.out))).rd (((F_raw.out _ (D1.out _ HS1.out))).ok Hq.out) ((F_raw.out _ (D1.out _ HS1.out))).int (by omega)).mono ?_
       rintro e w_5 ⟨rfl, bb⟩
       rw [← Hp.out]
       dsimp only
       have hprev := st1.go HS1.out (bb)
       replace HS1 := Lib.hid hprev
       clear hprev bb
       go_wp2_with fail
       refine (refPutMuts_any x.A x.cap x.l.length x.l w_5 rfl ((F_raw.out _ (D1.out _ HS1.out))).rd (((F_raw.out _ (D1.out _ HS1.out))).ok Hq.out) ((F_raw.out _ (D1.out _ HS1.out))).int (by omega)).mono ?_
       rintro e w_6 ⟨rfl, bb⟩
       rw [← Hp.out]
       dsimp only
       have hprev := st1.go HS1.out (bb)
       replace HS1 := Lib.hid hprev
       clear hprev bb
       go_wp2_with fail
       refine (getMuts_any s w_6 (by omega)).mono ?_
       rintro e w_7 ⟨A3, n3, c3, l3, hg⟩
       have he := hg.ee
       have Hm3 : Hid (l3.map MtV.m = (getMts s).1) := hg.mm
       have Hn3 : Hid (n3 = l3.length) := hg.nn
       subst he
       have hprev := st1.go HS1.out (hg.b)
       obtain ⟨S2, hSd⟩ : ∃ S : World → Prop, S = (fun W => S1 W ∧ Rd W A3 (mtsC l3) ∧ ∀ e ∈ l3, MtT W e) := ⟨_, rfl⟩
       have st2 : St S2 := by rw [hSd]; infer_instance
       have D2 : Hid (∀ W, S2 W → S1 W) := by show ∀ W, _; rw [hSd]; exact fun W h => h.1
       have F_rl3 : Hid (∀ W, S2 W → Rd W A3 (mtsC l3)) := by show ∀ W, _; rw [hSd]; exact fun W h => h.2.1
       have F_tl3 : Hid (∀ W, S2 W → ∀ e ∈ l3, MtT W e) := by show ∀ W, _; rw [hSd]; exact fun W h => h.2.2
       have HS2 : Hid (S2 w_7) := by show S2 w_7; rw [hSd]; exact ⟨hprev, hg.rd, hg.t⟩
       clear hSd
       clear hprev HS1 hg
       go_wp2_with fail
       refine (refGetMuts_any s w_7 (by omega)).mono ?_
       rintro e w_8 ⟨A4, n4, c4, l4, hg⟩
       have he := hg.ee
       have Hm4 : Hid (l4.map MtV.m = (getMts s).1) := hg.mm
       have Hn4 : Hid (n4 = l4.length) := hg.nn
       subst he
       have hprev := st2.go HS2.out (hg.b)
       obtain ⟨S3, hSd⟩ : ∃ S : World → Prop, S = (fun W => S2 W ∧ Rd W A4 (mtsC l4) ∧ ∀ e ∈ l4, MtT W e) := ⟨_, rfl⟩
       have st3 : St S3 := by rw [hSd]; infer_instance
       have D3 : Hid (∀ W, S3 W → S2 W) := by show ∀ W, _; rw [hSd]; exact fun W h => h.1
       have F_rl4 : Hid (∀ W, S3 W → Rd W A4 (mtsC l4)) := by show ∀ W, _; rw [hSd]; exact fun W h => h.2.1
       have F_tl4 : Hid (∀ W, S3 W → ∀ e ∈ l4, MtT W e) := by show ∀ W, _; rw [hSd]; exact fun W h => h.2.2
       have HS3 : Hid (S3 w_8) := by show S3 w_8; rw [hSd]; exact ⟨hprev, hg.rd, hg.t⟩
       clear hSd
       clear hprev HS2 hg
       have Hlen3 : Hid (l3.length ≤ 1000000) := Lib.hid (by
        have h8 := congrArg List.length Hm3.out
        rw [List.length_map] at h8
        rw [h8]
        by_cases h9 : (getMts s).2 = 0
        · have h7 := (gotBy_ok (enc := encMts) (ok := OkMs) (z := []) (s := s) h9).1.1
          exact Nat.le_trans h7 (by omega)
        · have h7 : getMts s = ([], 12) := gotBy_bad (enc := encMts) (ok := OkMs) (z := []) (s := s) h9
          rw [h7]; simp)
       generalize (getMts s).2 = g
       go_wp2_with (refine wpList_load_row rfl 29 _ rfl G_1 rfl 29 #[.int .i64 c.alive, .int .i64 c.killed, .int .i64 c.timeout] (0, 0) _ (F_C.out _ (D2.out _ (D3.out _ HS3.out))) Tryz.underlying29 rfl (by kernel_rfl) ?_)
       refine (putScore_any c w_8).mono ?_
       rintro e w_9 ⟨rfl, bb⟩
       rw [← Hp2.out]
       dsimp only
       have hprev := st3.go HS3.out (bb)
       replace HS3 := Lib.hid hprev
       clear hprev bb
       go_wp2_with (refine wpList_load_row rfl 29 _ rfl G_1 rfl 29 #[.int .i64 c.alive, .int .i64 c.killed, .int .i64 c.timeout] (0, 0) _ (F_C.out _ (D2.out _ (D3.out _ HS3.out))) Tryz.underlying29 rfl (by kernel_rfl) ?_)
       refine (refPutScore_any c w_9).mono ?_
       rintro e w_10 ⟨rfl, bb⟩
       rw [← Hp2.out]
       dsimp only
       have hprev := st3.go HS3.out (bb)
       replace HS3 := Lib.hid hprev
       clear hprev bb
       go_wp2_with fail
       refine (getScore_any t w_10 (by omega)).mono ?_
       rintro e w_11 ⟨rfl, bb⟩
       rw [← Hz2.out]
       dsimp only
       have hprev := st3.go HS3.out (bb)
       replace HS3 := Lib.hid hprev
       clear hprev bb
       go_wp2_with (refine at_alloc _ rfl ?_)
       refine Stop.to ?_
       refine wpList_alloc_gen rfl 29 rfl _ _ (zero_score _) rfl ?_
       intro G_12 w_13 hG rG bG
       go_wp2_with (refine at_store _ _ _ rfl ?_)
       refine Stop.to ?_
       refine wpList_store_gen rfl 29 _ _ rfl G_12 #[.int .i64 z.alive, .int .i64 z.killed, .int .i64 z.timeout] rfl rfl 29 _ rG (by kernel_rfl) rfl (by simp [Value.oneCell']) ?_
       intro w_14 rH oH
       have bH : Below (w_11).heap.size w_11 w_14 := (bG.mono hG).trans (oH.below hG)
       have hprev := st3.go HS3.out (bH)
       obtain ⟨S4, hSd⟩ : ∃ S : World → Prop, S = (fun W => S3 W ∧ Row W G_12 29 #[.int .i64 z.alive, .int .i64 z.killed, .int .i64 z.timeout]) := ⟨_, rfl⟩
       have st4 : St S4 := by rw [hSd]; infer_instance
       have D4 : Hid (∀ W, S4 W → S3 W) := by show ∀ W, _; rw [hSd]; exact fun W h => h.1
       have F_Y : Hid (∀ W, S4 W → Row W G_12 29 #[.int .i64 z.alive, .int .i64 z.killed, .int .i64 z.timeout]) := by show ∀ W, _; rw [hSd]; exact fun W h => h.2
       have HS4 : Hid (S4 w_14) := by show S4 w_14; rw [hSd]; exact ⟨hprev, rH⟩
       clear hSd
       clear hprev HS3 hG rG bG rH oH bH
       go_wp2_with fail
       refine (refGetScore_any t w_14 (by omega)).mono ?_
       rintro e w_15 ⟨rfl, bb⟩
       rw [← Hz2.out]
       dsimp only
       have hprev := st4.go HS4.out (bb)
       replace HS4 := Lib.hid hprev
       clear hprev bb
       go_wp2_with (refine at_alloc _ rfl ?_)
       refine Stop.to ?_
       refine wpList_alloc_gen rfl 29 rfl _ _ (zero_score _) rfl ?_
       intro G_16 w_17 hG rG bG
       go_wp2_with (refine at_store _ _ _ rfl ?_)
       refine Stop.to ?_
       refine wpList_store_gen rfl 29 _ _ rfl G_16 #[.int .i64 z.alive, .int .i64 z.killed, .int .i64 z.timeout] rfl rfl 29 _ rG (by kernel_rfl) rfl (by simp [Value.oneCell']) ?_
       intro w_18 rH oH
       have bH : Below (w_15).heap.size w_15 w_18 := (bG.mono hG).trans (oH.below hG)
       have hprev := st4.go HS4.out (bH)
       obtain ⟨S5, hSd⟩ : ∃ S : World → Prop, S = (fun W => S4 W ∧ Row W G_16 29 #[.int .i64 z.alive, .int .i64 z.killed, .int .i64 z.timeout]) := ⟨_, rfl⟩
       have st5 : St S5 := by rw [hSd]; infer_instance
       have D5 : Hid (∀ W, S5 W → S4 W) := by show ∀ W, _; rw [hSd]; exact fun W h => h.1
       have F_Z : Hid (∀ W, S5 W → Row W G_16 29 #[.int .i64 z.alive, .int .i64 z.killed, .int .i64 z.timeout]) := by show ∀ W, _; rw [hSd]; exact fun W h => h.2
       have HS5 : Hid (S5 w_18) := by show S5 w_18; rw [hSd]; exact ⟨hprev, rH⟩
       clear hSd
       clear hprev HS4 hG rG bG rH oH bH
       go_wp2_with fail
       refine (refAllMuts_any A3 A4 c3 c4 n3 n4 l3 l4 w_18 Hn3.out Hn4.out (F_rl3.out _ (D3.out _ (D4.out _ (D5.out _ HS5.out)))) (F_rl4.out _ (D4.out _ (D5.out _ HS5.out))) (fun e he => ((F_tl3.out _ (D3.out _ (D4.out _ (D5.out _ HS5.out)))) e he).1) (fun e he => ((F_tl4.out _ (D4.out _ (D5.out _ HS5.out))) e he).1) Hlen3.out).mono ?_
       rintro e w_19 ⟨rfl, bb⟩
       rw [decide_eq_true (Hm3.out.trans Hm4.out.symm)]
       have hprev := st5.go HS5.out (bb)
       replace HS5 := Lib.hid hprev
       clear hprev bb
       have heq := eql_scE z (w_19)
       go_wp2_with (first | (refine wpList_load_rowG rfl 29 _ rfl G_12 rfl 29 #[.int .i64 z.alive, .int .i64 z.killed, .int .i64 z.timeout] (0, 0) _ (F_Y.out _ (D5.out _ HS5.out)) Tryz.underlying29 rfl (by kernel_rfl) ?_) | (refine wpList_load_rowG rfl 29 _ rfl G_16 rfl 29 #[.int .i64 z.alive, .int .i64 z.killed, .int .i64 z.timeout] (0, 0) _ (F_Z.out _ HS5.out) Tryz.underlying29 rfl (by kernel_rfl) ?_))
       go_ret
       exact ⟨rfl, (F_low.out _ (D1.out _ (D2.out _ (D3.out _ (D4.out _ (D5.out _ HS5.out))))))⟩
end Go.Proofs.YtcgglolckkeeiaaGreat
