/- Lemmas for CmAll. -/
import Derived.Test.YtcgglolckkeeiaaGreatZm33
namespace Go.Proofs.YtcgglolckkeeiaaGreat
set_option linter.unusedVariables false
set_option linter.unusedSimpArgs false
open Go.RowKit Go.Deep
set_option maxRecDepth 100000 in
set_option maxHeartbeats 16000000 in
theorem campaignBack_walk (x : MtsV) (t : ByteArray) (w : World) (hx : MtsRaw w x) : Calls Tryz.prog 12 #[x.val, .string t] w fun e w' => e = .returned (.bool true) ∧ Below w.heap.size w w' := by
 obtain ⟨s, rfl⟩ := str_list t
 have hszs : (⟨s.toArray⟩ : ByteArray).size = s.length := by simp [ByteArray.size]
 show Calls _ _ #[.slice x.A x.l.length x.cap, _] _ _
 go_enter Tryz.func12, Tryz.ntmps12
 obtain ⟨S0, hSd⟩ : ∃ S : World → Prop, S = (fun W => Below w.heap.size w W ∧ MtsRaw W x) := ⟨_, rfl⟩
 have st0 : St S0 := by rw [hSd]; infer_instance
 have F_low : Hid (∀ W, S0 W → Below w.heap.size w W) := by show ∀ W, _; rw [hSd]; exact fun W h => h.1
 have F_raw : Hid (∀ W, S0 W → MtsRaw W x) := by show ∀ W, _; rw [hSd]; exact fun W h => h.2
 have HS0 : Hid (S0 w) := by show S0 w; rw [hSd]; exact ⟨Below.refl _ _, hx⟩
 clear hSd
 clear hx
 go_wp2_with fail
 refine (works21_any w).mono ?_
 rintro e w_1 ⟨rfl, bb⟩
 have hprev := st0.go HS0.out (bb)
 replace HS0 := Lib.hid hprev
 clear hprev bb
 go_wp2_with fail
 refine (fewM_b x.A x.cap x.l w_1 ((F_raw.out _ HS0.out)).rd).mono ?_
 rintro e w_2 ⟨rfl, bb⟩
 generalize hq : fewM x.l = q
 have Hq := Lib.hid hq
 clear hq
 have hprev := st0.go HS0.out (bb)
 replace HS0 := Lib.hid hprev
 clear hprev bb
 cases q
 · skip
   go_wp2_with fail
   go_ret
   exact ⟨rfl, (F_low.out _ HS0.out)⟩
 · skip
   have hlen := fewM_len Hq.out
   by_cases hs : 2000 < (s.length : Int)
   · skip
     go_wp2_with fail
     go_ret
     exact ⟨rfl, (F_low.out _ HS0.out)⟩
   · skip
     have hsn : s.length ≤ 2000 := by omega
     go_wp2_with fail
     refine (putMuts_any x.A x.cap x.l.length x.l w_2 rfl ((F_raw.out _ HS0.out)).rd (((F_raw.out _ HS0.out)).ok Hq.out) ((F_raw.out _ HS0.out)).int (by omega)).mono ?_
     rintro e w_3 ⟨rfl, bb⟩
     obtain ⟨⟨a, ea⟩, hp⟩ : ∃ p, p = putMts (x.l.map MtV.m) := ⟨_, rfl⟩
     rw [← hp]
     have Hp := Lib.hid hp
     clear hp
     have hprev := st0.go HS0.out (bb)
     replace HS0 := Lib.hid hprev
     clear hprev bb
     by_cases h0 : ea = 0
     · skip
       subst h0
       have Hok := Lib.hid (putMts_ok Hp.out (fun m hm => by
        obtain ⟨e, he, rfl⟩ := List.mem_map.1 hm
        exact ((F_raw.out _ HS0.out)).int e he))
       obtain rfl := Hok.out.2
       have hal := encMts_len Hok.out.1
       have Hg := Lib.hid (getMts_put Hok.out.1)
       go_wp2_with fail
       refine (getMuts_any (encMts (x.l.map MtV.m)) w_3 hal).mono ?_
       rintro e w_4 ⟨A2, n2, c2, l2, hg⟩
       have he := hg.ee
       have Hm2 : Hid (l2.map MtV.m = x.l.map MtV.m) := by show _ = _; rw [hg.mm, Hg.out]
       have Hn2 : Hid (n2 = l2.length) := hg.nn
       rw [Hg.out] at he
       subst he
       have hprev := st0.go HS0.out (hg.b)
       obtain ⟨S1, hSd⟩ : ∃ S : World → Prop, S = (fun W => S0 W ∧ Rd W A2 (mtsC l2) ∧ ∀ e ∈ l2, MtT W e) := ⟨_, rfl⟩
       have st1 : St S1 := by rw [hSd]; infer_instance
       have D1 : Hid (∀ W, S1 W → S0 W) := by show ∀ W, _; rw [hSd]; exact fun W h => h.1
       have F_rl2 : Hid (∀ W, S1 W → Rd W A2 (mtsC l2)) := by show ∀ W, _; rw [hSd]; exact fun W h => h.2.1
       have F_tl2 : Hid (∀ W, S1 W → ∀ e ∈ l2, MtT W e) := by show ∀ W, _; rw [hSd]; exact fun W h => h.2.2
       have HS1 : Hid (S1 w_4) := by show S1 w_4; rw [hSd]; exact ⟨hprev, hg.rd, hg.t⟩
       clear hSd
       clear hprev HS0 hg
       go_wp2_with fail
       refine (refAllMuts_any A2 x.A c2 x.cap n2 x.l.length l2 x.l w_4 Hn2.out rfl (F_rl2.out _ HS1.out) ((F_raw.out _ (D1.out _ HS1.out))).rd (fun e he => ((F_tl2.out _ HS1.out) e he).1) (((F_raw.out _ (D1.out _ HS1.out))).ok Hq.out) (by have h9 := congrArg List.length Hm2.out; simp at h9; omega)).mono ?_
       rintro e w_5 ⟨rfl, bb⟩
       rw [decide_eq_true Hm2.out]
       have hprev := st1.go HS1.out (bb)
       replace HS1 := Lib.hid hprev
       clear hprev bb
       go_wp2_with fail
       refine (getMuts_any s w_5 (by omega)).mono ?_
       rintro e w_6 ⟨A3, n3, c3, l3, hg⟩
       have he := hg.ee
       obtain ⟨⟨ms, g⟩, hz⟩ : ∃ p, p = getMts s := ⟨_, rfl⟩
       rw [← hz] at he
       have Hm : Hid (l3.map MtV.m = ms) := by show _ = _; rw [hg.mm, ← hz]
       have Hnl : Hid (n3 = l3.length) := hg.nn
       have Hin := Lib.hid hg.int
       have Hz := Lib.hid hz
       clear hz
       subst he
       have hprev := st1.go HS1.out (hg.b)
       obtain ⟨S2, hSd⟩ : ∃ S : World → Prop, S = (fun W => S1 W ∧ Rd W A3 (mtsC l3) ∧ ∀ e ∈ l3, MtT W e) := ⟨_, rfl⟩
       have st2 : St S2 := by rw [hSd]; infer_instance
       have D2 : Hid (∀ W, S2 W → S1 W) := by show ∀ W, _; rw [hSd]; exact fun W h => h.1
       have F_rl : Hid (∀ W, S2 W → Rd W A3 (mtsC l3)) := by show ∀ W, _; rw [hSd]; exact fun W h => h.2.1
       have F_tl : Hid (∀ W, S2 W → ∀ e ∈ l3, MtT W e) := by show ∀ W, _; rw [hSd]; exact fun W h => h.2.2
       have HS2 : Hid (S2 w_6) := by show S2 w_6; rw [hSd]; exact ⟨hprev, hg.rd, hg.t⟩
       clear hSd
       clear hprev HS1 hg
       by_cases hg : g = 0
       · skip
         subst hg
         have Hp := Lib.hid (getMts_0 Hz.out)
         have hms : ms.length ≤ 2000 := by
          have h9 := Hp.out
          unfold putMts at h9
          split at h9
          · rename_i h8; exact h8.1
          · injection h9 with _ h9; exact absurd h9 (by decide)
         have hn3 : n3 ≤ 1000000 := by have h8 := congrArg List.length Hm.out; rw [List.length_map] at h8; have := Hnl.out; omega
         go_wp2_with fail
         refine (putMuts_any A3 c3 n3 l3 w_6 Hnl.out (F_rl.out _ HS2.out) (fun e he => ((F_tl.out _ HS2.out) e he).1) Hin.out hn3).mono ?_
         rintro e w_7 ⟨rfl, bb⟩
         rw [Hm.out, Hp.out]
         dsimp only
         have hprev := st2.go HS2.out (bb)
         replace HS2 := Lib.hid hprev
         clear hprev bb
         go_wp2_with fail
         go_ret
         exact ⟨rfl, (F_low.out _ (D1.out _ (D2.out _ HS2.out)))⟩
       · skip
         obtain ⟨hms, rfl⟩ := getMts_no Hz.out hg
         obtain rfl : n3 = 0 := by
          have h8 := congrArg List.length Hm.out
          rw [List.length_map, hms] at h8
          exact Hnl.out.trans h8
         clear hms hg
         go_wp2_with fail
         go_ret
         exact ⟨rfl, (F_low.out _ (D1.out _ (D2.out _ HS2.out)))⟩
     · skip
       go_wp2_with fail
       refine (getMuts_any s w_3 (by omega)).mono ?_
       rintro e w_8 ⟨A3, n3, c3, l3, hg⟩
       have he := hg.ee
       obtain ⟨⟨ms, g⟩, hz⟩ : ∃ p, p = getMts s := ⟨_, rfl⟩
       rw [← hz] at he
       have Hm : Hid (l3.map MtV.m = ms) := by show _ = _; rw [hg.mm, ← hz]
       have Hnl : Hid (n3 = l3.length) := hg.nn
       have Hin := Lib.hid hg.int
       have Hz := Lib.hid hz
       clear hz
       subst he
       have hprev := st0.go HS0.out (hg.b)
       obtain ⟨S1, hSd⟩ : ∃ S : World → Prop, S = (fun W => S0 W ∧ Rd W A3 (mtsC l3) ∧ ∀ e ∈ l3, MtT W e) := ⟨_, rfl⟩
       have st1 : St S1 := by rw [hSd]; infer_instance
       have D1 : Hid (∀ W, S1 W → S0 W) := by show ∀ W, _; rw [hSd]; exact fun W h => h.1
       have F_rl : Hid (∀ W, S1 W → Rd W A3 (mtsC l3)) := by show ∀ W, _; rw [hSd]; exact fun W h => h.2.1
       have F_tl : Hid (∀ W, S1 W → ∀ e ∈ l3, MtT W e) := by show ∀ W, _; rw [hSd]; exact fun W h => h.2.2
       have HS1 : Hid (S1 w_8) := by show S1 w_8; rw [hSd]; exact ⟨hprev, hg.rd, hg.t⟩
       clear hSd
       clear hprev HS0 hg
       by_cases hg : g = 0
       · skip
         subst hg
         have Hp := Lib.hid (getMts_0 Hz.out)
         have hms : ms.length ≤ 2000 := by
          have h9 := Hp.out
          unfold putMts at h9
          split at h9
          · rename_i h8; exact h8.1
          · injection h9 with _ h9; exact absurd h9 (by decide)
         have hn3 : n3 ≤ 1000000 := by have h8 := congrArg List.length Hm.out; rw [List.length_map] at h8; have := Hnl.out; omega
         go_wp2_with fail
         refine (putMuts_any A3 c3 n3 l3 w_8 Hnl.out (F_rl.out _ HS1.out) (fun e he => ((F_tl.out _ HS1.out) e he).1) Hin.out hn3).mono ?_
         rintro e w_9 ⟨rfl, bb⟩
         rw [Hm.out, Hp.out]
         dsimp only
         have hprev := st1.go HS1.out (bb)
         replace HS1 := Lib.hid hprev
         clear hprev bb
         go_wp2_with fail
         go_ret
         exact ⟨rfl, (F_low.out _ (D1.out _ HS1.out))⟩
       · skip
         obtain ⟨hms, rfl⟩ := getMts_no Hz.out hg
         obtain rfl : n3 = 0 := by
          have h8 := congrArg List.length Hm.out
          rw [List.length_map, hms] at h8
          exact Hnl.out.trans h8
         clear hms hg
         go_wp2_with fail
         go_ret
         exact ⟨rfl, (F_low.out _ (D1.out _ HS1.out))⟩
end Go.Proofs.YtcgglolckkeeiaaGreat
namespace Go.Proofs.YtcgglolckkeeiaaGreat
set_option linter.unusedVariables false
set_option linter.unusedSimpArgs false
open Go.RowKit Go.Deep
set_option maxRecDepth 100000 in
set_option maxHeartbeats 16000000 in
theorem campaignChecks_walk (a b : CpV) (w : World) (ha : CpRaw w a ∧ CpIn a) (hb : CpRaw w b ∧ CpIn b) : Calls Tryz.prog 10 #[.agg a.cells, .agg b.cells] w fun e w' => e = .returned (.bool true) ∧ Below w.heap.size w w' := by
 go_enter Tryz.func10, Tryz.ntmps10
 obtain ⟨S0, hSd⟩ : ∃ S : World → Prop, S = (fun W => Below w.heap.size w W ∧ CpRaw W a ∧ CpRaw W b) := ⟨_, rfl⟩
 have st0 : St S0 := by rw [hSd]; infer_instance
 have F_low : Hid (∀ W, S0 W → Below w.heap.size w W) := by show ∀ W, _; rw [hSd]; exact fun W h => h.1
 have F_ra : Hid (∀ W, S0 W → CpRaw W a) := by show ∀ W, _; rw [hSd]; exact fun W h => h.2.1
 have F_rb : Hid (∀ W, S0 W → CpRaw W b) := by show ∀ W, _; rw [hSd]; exact fun W h => h.2.2
 have HS0 : Hid (S0 w) := by show S0 w; rw [hSd]; exact ⟨Below.refl _ _, ha.1, hb.1⟩
 clear hSd
 clear ha hb
 go_wp2_with (refine at_box _ _ rfl ?_)
 refine Stop.to ?_
 refine wpList_box_gen rfl 31 _ rfl a.cells rfl ?_
 intro G_1 w_2 hG rG bG
 have hprev := st0.go HS0.out (bG.mono hG)
 obtain ⟨S1, hSd⟩ : ∃ S : World → Prop, S = (fun W => S0 W ∧ Row W G_1 31 a.cells) := ⟨_, rfl⟩
 have st1 : St S1 := by rw [hSd]; infer_instance
 have D1 : Hid (∀ W, S1 W → S0 W) := by show ∀ W, _; rw [hSd]; exact fun W h => h.1
 have F_A : Hid (∀ W, S1 W → Row W G_1 31 a.cells) := by show ∀ W, _; rw [hSd]; exact fun W h => h.2
 have HS1 : Hid (S1 w_2) := by show S1 w_2; rw [hSd]; exact ⟨hprev, rG⟩
 clear hSd
 clear hprev HS0 hG rG bG
 go_wp2_with (refine at_box _ _ rfl ?_)
 refine Stop.to ?_
 refine wpList_box_gen rfl 31 _ rfl b.cells rfl ?_
 intro G_3 w_4 hG rG bG
 have hprev := st1.go HS1.out (bG.mono hG)
 obtain ⟨S2, hSd⟩ : ∃ S : World → Prop, S = (fun W => S1 W ∧ Row W G_3 31 b.cells) := ⟨_, rfl⟩
 have st2 : St S2 := by rw [hSd]; infer_instance
 have D2 : Hid (∀ W, S2 W → S1 W) := by show ∀ W, _; rw [hSd]; exact fun W h => h.1
 have F_B : Hid (∀ W, S2 W → Row W G_3 31 b.cells) := by show ∀ W, _; rw [hSd]; exact fun W h => h.2
 have HS2 : Hid (S2 w_4) := by show S2 w_4; rw [hSd]; exact ⟨hprev, rG⟩
 clear hSd
 clear hprev HS1 hG rG bG
 go_wp2_with fail
 refine (works21_any w_4).mono ?_
 rintro e w_5 ⟨rfl, bb⟩
 have hprev := st2.go HS2.out (bb)
 replace HS2 := Lib.hid hprev
 clear hprev bb
 go_wp2_with (refine wpList_load_row rfl 31 _ rfl G_1 rfl 31 a.cells (0, 0) _ (F_A.out _ (D2.out _ HS2.out)) Tryz.underlying31 rfl (by kernel_rfl) ?_)
 refine (fewC_any a w_5 (F_ra.out _ (D1.out _ (D2.out _ HS2.out)))).mono ?_
 rintro e w_6 ⟨rfl, bb⟩
 generalize hq : fewC a = qa
 have Hqa := Lib.hid hq
 clear hq
 have hprev := st2.go HS2.out (bb)
 replace HS2 := Lib.hid hprev
 clear hprev bb
 cases qa
 · skip
   go_wp2_with fail
   go_ret
   exact ⟨rfl, (F_low.out _ (D1.out _ (D2.out _ HS2.out)))⟩
 · skip
   go_wp2_with (refine wpList_load_rowG rfl 31 _ rfl G_3 rfl 31 b.cells (0, 0) _ (F_B.out _ HS2.out) Tryz.underlying31 rfl (by kernel_rfl) ?_)
   refine (fewC_any b w_6 (F_rb.out _ (D1.out _ (D2.out _ HS2.out)))).mono ?_
   rintro e w_7 ⟨rfl, bb⟩
   generalize hq : fewC b = qb
   have Hqb := Lib.hid hq
   clear hq
   have hprev := st2.go HS2.out (bb)
   replace HS2 := Lib.hid hprev
   clear hprev bb
   cases qb
   · skip
     go_wp2_with fail
     go_ret
     exact ⟨rfl, (F_low.out _ (D1.out _ (D2.out _ HS2.out)))⟩
   · skip
     have F_oka : Hid (∀ W, S2 W → CpOk W a) := by show ∀ W, _; exact fun W hW => ((F_ra.out _ (D1.out _ (D2.out _ hW)))).ok Hqa.out
     have F_okb : Hid (∀ W, S2 W → CpOk W b) := by show ∀ W, _; exact fun W hW => ((F_rb.out _ (D1.out _ (D2.out _ hW)))).ok Hqb.out
     go_wp2_with (first | (refine wpList_load_row rfl 31 _ rfl G_1 rfl 31 a.cells (0, 0) _ (F_A.out _ (D2.out _ HS2.out)) Tryz.underlying31 rfl (by kernel_rfl) ?_) | (refine wpList_load_row rfl 31 _ rfl G_3 rfl 31 b.cells (0, 0) _ (F_B.out _ HS2.out) Tryz.underlying31 rfl (by kernel_rfl) ?_))
     refine (refCpSame_any a b w_7 (F_oka.out _ HS2.out) (F_okb.out _ HS2.out)).mono ?_
     rintro e w_8 ⟨rfl, bb⟩
     have hprev := st2.go HS2.out (bb)
     replace HS2 := Lib.hid hprev
     clear hprev bb
     go_wp2_with fail
     have HCa : Hid (∀ W, S2 W → Calls Tryz.prog 26 #[.agg a.cells] W fun e w' => e = .returned (.int .i64 (cpCheckZ a)) ∧ Below W.heap.size W w') := fun W hW => cpCheck_any a W (F_oka.out _ hW)
     have HRa : Hid (∀ W, S2 W → Calls Tryz.prog 31 #[.agg a.cells] W fun e w' => e = .returned (.int .i64 (cpCheckZ a)) ∧ Below W.heap.size W w') := fun W hW => refCpCheck_any a W (F_oka.out _ hW)
     have HSa : Hid (∀ W, S2 W → Calls Tryz.prog 27 #[.agg a.cells, .agg b.cells] W fun e w' => e = .returned (.bool (sameC a b)) ∧ Below W.heap.size W w') := fun W hW => cpSame_any a b W (F_oka.out _ hW) (F_okb.out _ hW)
     generalize cpCheckZ a = z at HCa HRa
     generalize sameC a b = sm at HSa ⊢
     refine region_hold S2 (by kernel_rfl) (by kernel_rfl) (St.drew HS2.out) ?_
     (refine hold_value rfl ?_ (fun W hW => ?_) ?_; rotate_left; (focus (go_simp; exact rfl)); simp only [Act.put, List.setIfInBounds_toArray, List.set_cons_zero, List.set_cons_succ])
     (refine hold_value rfl ?_ (fun W hW => ?_) ?_; rotate_left; (focus (go_simp; exact rfl)); simp only [Act.put, List.setIfInBounds_toArray, List.set_cons_zero, List.set_cons_succ])
     (refine hold_load_row rfl 31 _ rfl (G_1) rfl 31 _ _ (fun W hW => (F_A.out _ (D2.out _ hW))) Tryz.underlying31 rfl (by kernel_rfl) ?_; simp only [Act.put, List.setIfInBounds_toArray, List.set_cons_zero, List.set_cons_succ])
     (refine hold_call_new rfl 26 _ (fun W => by (go_simp; try rfl)) (.int .i64 z) (fun W hW => HCa.out W hW) ?_; simp only [Act.put, List.setIfInBounds_toArray, List.set_cons_zero, List.set_cons_succ])
     (refine hold_load_row rfl 31 _ rfl (G_1) rfl 31 _ _ (fun W hW => (F_A.out _ (D2.out _ hW))) Tryz.underlying31 rfl (by kernel_rfl) ?_; simp only [Act.put, List.setIfInBounds_toArray, List.set_cons_zero, List.set_cons_succ])
     (refine hold_call_new rfl 31 _ (fun W => by (go_simp; try rfl)) (.int .i64 z) (fun W hW => HRa.out W hW) ?_; simp only [Act.put, List.setIfInBounds_toArray, List.set_cons_zero, List.set_cons_succ])
     (refine hold_value rfl ?_ (fun W hW => ?_) ?_; rotate_left; (focus (go_simp; exact rfl)); simp only [Act.put, List.setIfInBounds_toArray, List.set_cons_zero, List.set_cons_succ])
     (refine hold_value rfl ?_ (fun W hW => ?_) ?_; rotate_left; (focus (go_simp; exact rfl)); simp only [Act.put, List.setIfInBounds_toArray, List.set_cons_zero, List.set_cons_succ])
     (refine hold_value rfl ?_ (fun W hW => ?_) ?_; rotate_left; (focus (go_simp; exact rfl)); simp only [Act.put, List.setIfInBounds_toArray, List.set_cons_zero, List.set_cons_succ])
     (refine hold_load_row rfl 31 _ rfl (G_1) rfl 31 _ _ (fun W hW => (F_A.out _ (D2.out _ hW))) Tryz.underlying31 rfl (by kernel_rfl) ?_; simp only [Act.put, List.setIfInBounds_toArray, List.set_cons_zero, List.set_cons_succ])
     (refine hold_load_row rfl 31 _ rfl (G_3) rfl 31 _ _ (fun W hW => (F_B.out _ hW)) Tryz.underlying31 rfl (by kernel_rfl) ?_; simp only [Act.put, List.setIfInBounds_toArray, List.set_cons_zero, List.set_cons_succ])
     (refine hold_call_new rfl 27 _ (fun W => by (go_simp; try rfl)) (.bool sm) (fun W hW => HSa.out W hW) ?_; simp only [Act.put, List.setIfInBounds_toArray, List.set_cons_zero, List.set_cons_succ])
     (refine hold_value rfl ?_ (fun W hW => ?_) ?_; rotate_left; (focus (go_simp; exact rfl)); simp only [Act.put, List.setIfInBounds_toArray, List.set_cons_zero, List.set_cons_succ])
     (refine hold_value rfl ?_ (fun W hW => ?_) ?_; rotate_left; (focus (go_simp; exact rfl)); simp only [Act.put, List.setIfInBounds_toArray, List.set_cons_zero, List.set_cons_succ])
     (refine hold_value rfl ?_ (fun W hW => ?_) ?_; rotate_left; (focus (go_simp; exact rfl)); simp only [Act.put, List.setIfInBounds_toArray, List.set_cons_zero, List.set_cons_succ])
     (refine hold_value rfl ?_ (fun W hW => ?_) ?_; rotate_left; (focus (go_simp; exact rfl)); simp only [Act.put, List.setIfInBounds_toArray, List.set_cons_zero, List.set_cons_succ])
     refine wpHold_nil fun W9 hS9 => ?_
     go_wp2_with fail
     go_ret
     exact ⟨rfl, (F_low.out _ (D1.out _ (D2.out _ hS9)))⟩
end Go.Proofs.YtcgglolckkeeiaaGreat
