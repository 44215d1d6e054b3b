/- Lemmas for JnCll. -/
import Derived.Test.YtcgglolckkeeiaaGreatZl27
import Derived.Test.YtcgglolckkeeiaaGreatZl25
namespace Go.Proofs.YtcgglolckkeeiaaGreat
set_option linter.unusedVariables false
open Go.RowKit Go.Deep
set_option maxRecDepth 100000 in
set_option maxHeartbeats 16000000 in
theorem joinPart_walk (c : CpV) (bits : Int) (hbits : 0 ≤ bits ∧ bits ≤ 18446744073709551615) (w : World) (hc : CpRaw w c ∧ CpIn c) : Calls Tryz.prog 9 #[.agg c.cells, .int .u64 bits] w fun e w' => e = .returned (.bool true) ∧ Below w.heap.size w w' := by
 go_enter Tryz.func9, Tryz.ntmps9
 obtain ⟨S0, hSd⟩ : ∃ S : World → Prop, S = (fun W => Below w.heap.size w W ∧ CpRaw W c) := ⟨_, rfl⟩
 have st0 : St S0 := by rw [hSd]; infer_instance
 have F_low : Hid (∀ W, S0 W → Below w.heap.size w W) := by show ∀ W, _; rw [hSd]; exact fun W h => h.1
 have F_rc : Hid (∀ W, S0 W → CpRaw W c) := by show ∀ W, _; rw [hSd]; exact fun W h => h.2
 have HS0 : Hid (S0 w) := by show S0 w; rw [hSd]; exact ⟨Below.refl _ _, hc.1⟩
 clear hSd
 have HIc : Hid (CpIn c) := hc.2
 have HB : Hid (0 ≤ bits ∧ bits ≤ 18446744073709551615) := hbits
 clear hc hbits
 go_wp2_with (refine at_box _ _ rfl ?_)
 refine Stop.to ?_
 refine wpList_box_gen rfl 31 _ rfl c.cells rfl ?_
 intro G_1 w_2 hG rG bG
 have hprev := st0.go HS0.out (bG.mono hG)
 obtain ⟨S1, hSd⟩ : ∃ S : World → Prop, S = (fun W => S0 W ∧ Row W G_1 31 c.cells) := ⟨_, rfl⟩
 have st1 : St S1 := by rw [hSd]; infer_instance
 have D1 : Hid (∀ W, S1 W → S0 W) := by show ∀ W, _; rw [hSd]; exact fun W h => h.1
 have F_C : Hid (∀ W, S1 W → Row W G_1 31 c.cells) := by show ∀ W, _; rw [hSd]; exact fun W h => h.2
 have HS1 : Hid (S1 w_2) := by show S1 w_2; rw [hSd]; exact ⟨hprev, rG⟩
 clear hSd
 clear hprev HS0 hG rG bG
 go_wp2_with fail
 refine (works25_any w_2).mono ?_
 rintro e w_3 ⟨rfl, bb⟩
 have hprev := st1.go HS1.out (bb)
 replace HS1 := Lib.hid hprev
 clear hprev bb
 go_wp2_with (first | (refine wpList_load_rowG rfl 31 _ rfl G_1 rfl 31 c.cells (0, 0) _ (F_C.out _ HS1.out) Tryz.underlying31 rfl (by kernel_rfl) ?_) | (refine wpList_load_rowG rfl 31 _ rfl G_1 rfl 31 c.cells (0, 0) _ (F_C.out _ HS1.out) Tryz.underlying31 rfl (by kernel_rfl) ?_) | (refine wpList_load_row rfl 31 _ rfl G_1 rfl 31 c.cells (0, 0) _ (F_C.out _ HS1.out) Tryz.underlying31 rfl (by kernel_rfl) ?_) | (refine wpList_load_row rfl 31 _ rfl G_1 rfl 31 c.cells (0, 0) _ (F_C.out _ HS1.out) Tryz.underlying31 rfl (by kernel_rfl) ?_))
 refine (few25_any c c w_3 (F_rc.out _ (D1.out _ HS1.out)) (F_rc.out _ (D1.out _ HS1.out))).mono ?_
 rintro e w_4 ⟨rfl, bb⟩
 have hprev := st1.go HS1.out (bb)
 replace HS1 := Lib.hid hprev
 clear hprev bb
 generalize hqcc : (fewC c && fewC c) = qcc
 have Hqcc := Lib.hid hqcc
 clear hqcc
 cases qcc
 · skip
   go_wp2_with fail
   go_ret
   exact ⟨rfl, (F_low.out _ (D1.out _ HS1.out))⟩
 have hfqcc : fewC c = true ∧ fewC c = true := by have h := Hqcc.out; rwa [Bool.and_eq_true] at h
 have F_okc : Hid (∀ W, S1 W → CpOk W c) := by show ∀ W, _; exact fun W hW => ((F_rc.out _ (D1.out _ hW))).ok hfqcc.1
 have Hmc : Hid (c.mts.length ≤ 250) := (fewC_of hfqcc.1).2.2.2.2.1
 have hmcI : (c.mts.length : Int) ≤ 250 := by have := Hmc.out; omega
 clear hfqcc Hqcc
 go_wp2_with (refine wpList_load_rowG rfl 31 _ rfl G_1 rfl 31 c.cells (0, 0) _ (F_C.out _ HS1.out) Tryz.underlying31 rfl (by kernel_rfl) ?_)
 refine (cpCheck_any c w_4 (F_okc.out _ HS1.out)).mono ?_
 rintro e w_5 ⟨rfl, bb⟩
 obtain ⟨zc, hzc⟩ : ∃ z, z = cpCheckZ c := ⟨_, rfl⟩
 rw [← hzc]
 have hprev := st1.go HS1.out (bb)
 replace HS1 := Lib.hid hprev
 clear hprev bb
 by_cases h0 : zc = 0
 rotate_left
 · have h1 : (zc != 0) = true := by simpa using h0
   clear hzc h0
   go_wp2_with fail
   go_ret
   exact ⟨rfl, (F_low.out _ (D1.out _ HS1.out))⟩
 subst h0
 have HO : Hid (OkC c) := okC.1 hzc.symm
 clear hzc
 go_wp2_with fail
 obtain ⟨T, hTd⟩ : ∃ T, T = (fun W => Below (w_5).heap.size (w_5) W) := ⟨_, rfl⟩
 have stT : St T := by rw [hTd]; exact ⟨fun h b => h.trans (b.mono h.size)⟩
 have K0 : Hid (∀ W, T W → Below (w_5).heap.size (w_5) W) := by show ∀ W, _; rw [hTd]; exact fun W h => h
 have K1 : Hid (∀ W, Below (w_5).heap.size (w_5) W → T W) := by show ∀ W, _; rw [hTd]; exact fun W h => h
 have hT : T (w_5) := K1.out _ (Below.refl _ _)
 have hSX := HS1.out
 have TS : Hid (∀ W, T W → S1 W) := fun W h => st1.go hSX (K0.out W h)
 clear hTd hSX
 apply wp_cutG2 (F := fun D E W => T W ∧ (w_5).heap.size ≤ D ∧ (w_5).heap.size ≤ E ∧ D ≠ E ∧ Row W D 31 c.cells ∧ Row W E 31 c.cells)
 case hreg =>
  refine wp_region_held (S := T) (by kernel_rfl) ?_
  simp only [List.size_toArray, List.length_cons, List.length_nil, Nat.reduceAdd, Array.replicate_succ, Array.replicate_zero, List.push_toArray, List.nil_append, List.cons_append]
  show wpAnyH _ _ _ _ _ _ _ _ (w_5).drew
  replace hT := St.drew hT
  generalize (w_5).drew = wd at hT ⊢
  (refine takeH (i := 0) (v := _) rfl (by kernel_rfl) (by kernel_rfl) (by kernel_rfl) (fun _ _ _ h => h) ((yields_row rfl 31 _ rfl G_1 rfl 31 c.cells _ (fun W hW => (F_C.out _ (TS.out W hW))) Tryz.underlying31 rfl (by kernel_rfl))) (by assumption) ?_; simp only [Act.put, List.setIfInBounds_toArray, List.set_cons_zero, List.set_cons_succ])
  (refine takeH (i := 1) (v := _) rfl (by kernel_rfl) (by kernel_rfl) (by kernel_rfl) (fun _ _ _ h => h) ((yields_row rfl 31 _ rfl G_1 rfl 31 c.cells _ (fun W hW => (F_C.out _ (TS.out W hW))) Tryz.underlying31 rfl (by kernel_rfl))) (by assumption) ?_; simp only [Act.put, List.setIfInBounds_toArray, List.set_cons_zero, List.set_cons_succ])
  refine wpAnyH_all (rs := [2, 3]) (by kernel_rfl) (by simp) (fun i hi => ?_)
  simp only [List.mem_cons, List.not_mem_nil, or_false] at hi
  rcases hi with rfl | rfl
  · skip
    refine wpOp_plain rfl rfl (fun K2 hK2 => ?_)
    refine wp_alloc_gen 31 rfl _ _ (zero_cp _) rfl ?_
    intro D wa hD rD bx
    refine hK2 _ _ ?_
    clear hK2 K2
    simp only [Act.put, List.setIfInBounds_toArray, List.set_cons_zero, List.set_cons_succ]
    have lD := Nat.le_trans (K0.out _ hT).size hD
    have bD := bx.mono hD
    replace hT := stT.go hT bD
    refine ⟨hT, ?_⟩
    (refine wpAnyH_all (rs := [3]) (by kernel_rfl) (by simp) (fun i hi => ?_); obtain rfl : i = 3 := by simpa using hi)
    refine wpOp_plain rfl rfl (fun K2 hK2 => ?_)
    refine wp_alloc_gen 31 rfl _ _ (zero_cp _) rfl ?_
    intro E wb hE rE bx
    refine hK2 _ _ ?_
    clear hK2 K2
    simp only [Act.put, List.setIfInBounds_toArray, List.set_cons_zero, List.set_cons_succ]
    have lE := Nat.le_trans (K0.out _ hT).size hE
    have bE := bx.mono hE
    replace hT := stT.go hT bE
    refine ⟨hT, ?_⟩
    have hab : D < E := Nat.lt_of_lt_of_le rD.lt hE
    replace rD := rD.below bE rD.lt
    have hDE : D ≠ E := by omega
    (refine wpAnyH_all (rs := [4]) (by kernel_rfl) (by simp) (fun i hi => ?_); obtain rfl : i = 4 := by simpa using hi)
    refine wpOp_plain rfl rfl (fun K2 hK2 => ?_)
    refine wp_store_gen 31 _ _ rfl D c.cells rfl rfl 31 _ rD (by kernel_rfl) rfl (by simp [CpV.cells, Value.oneCell']) ?_
    intro wc sD oD
    refine hK2 _ _ ?_
    clear hK2 K2
    simp only [Act.put, List.setIfInBounds_toArray, List.set_cons_zero, List.set_cons_succ]
    replace hT : T wc := K1.out _ (below_only (K0.out _ hT) oD lD)
    refine ⟨hT, ?_⟩
    replace rE := rE.only oD (Ne.symm hDE)
    (refine wpAnyH_all (rs := [5]) (by kernel_rfl) (by simp) (fun i hi => ?_); obtain rfl : i = 5 := by simpa using hi)
    refine wpOp_plain rfl rfl (fun K2 hK2 => ?_)
    refine wp_store_gen 31 _ _ rfl E c.cells rfl rfl 31 _ rE (by kernel_rfl) rfl (by simp [CpV.cells, Value.oneCell']) ?_
    intro we sE oE
    refine hK2 _ _ ?_
    clear hK2 K2
    simp only [Act.put, List.setIfInBounds_toArray, List.set_cons_zero, List.set_cons_succ]
    replace hT : T we := K1.out _ (below_only (K0.out _ hT) oE lE)
    refine ⟨hT, ?_⟩
    refine wpAnyH_done (by kernel_rfl) ?_ _
    refine ends_normal ?_
    exact ⟨D, E, rfl, hT, lD, lE, hDE, sD.only oE hDE, sE⟩
  · skip
    refine wpOp_plain rfl rfl (fun K2 hK2 => ?_)
    refine wp_alloc_gen 31 rfl _ _ (zero_cp _) rfl ?_
    intro E wa hE rE bx
    refine hK2 _ _ ?_
    clear hK2 K2
    simp only [Act.put, List.setIfInBounds_toArray, List.set_cons_zero, List.set_cons_succ]
    have lE := Nat.le_trans (K0.out _ hT).size hE
    have bE := bx.mono hE
    replace hT := stT.go hT bE
    refine ⟨hT, ?_⟩
    (refine wpAnyH_all (rs := [2]) (by kernel_rfl) (by simp) (fun i hi => ?_); obtain rfl : i = 2 := by simpa using hi)
    refine wpOp_plain rfl rfl (fun K2 hK2 => ?_)
    refine wp_alloc_gen 31 rfl _ _ (zero_cp _) rfl ?_
    intro D wb hD rD bx
    refine hK2 _ _ ?_
    clear hK2 K2
    simp only [Act.put, List.setIfInBounds_toArray, List.set_cons_zero, List.set_cons_succ]
    have lD := Nat.le_trans (K0.out _ hT).size hD
    have bD := bx.mono hD
    replace hT := stT.go hT bD
    refine ⟨hT, ?_⟩
    have hab : E < D := Nat.lt_of_lt_of_le rE.lt hD
    replace rE := rE.below bD rE.lt
    have hDE : D ≠ E := by omega
    (refine wpAnyH_all (rs := [4]) (by kernel_rfl) (by simp) (fun i hi => ?_); obtain rfl : i = 4 := by simpa using hi)
    refine wpOp_plain rfl rfl (fun K2 hK2 => ?_)
    refine wp_store_gen 31 _ _ rfl D c.cells rfl rfl 31 _ rD (by kernel_rfl) rfl (by simp [CpV.cells, Value.oneCell']) ?_
    intro wc sD oD
    refine hK2 _ _ ?_
    clear hK2 K2
    simp only [Act.put, List.setIfInBounds_toArray, List.set_cons_zero, List.set_cons_succ]
    replace hT : T wc := K1.out _ (below_only (K0.out _ hT) oD lD)
    refine ⟨hT, ?_⟩
    replace rE := rE.only oD (Ne.symm hDE)
    (refine wpAnyH_all (rs := [5]) (by kernel_rfl) (by simp) (fun i hi => ?_); obtain rfl : i = 5 := by simpa using hi)
    refine wpOp_plain rfl rfl (fun K2 hK2 => ?_)
    refine wp_store_gen 31 _ _ rfl E c.cells rfl rfl 31 _ rE (by kernel_rfl) rfl (by simp [CpV.cells, Value.oneCell']) ?_
    intro we sE oE
    refine hK2 _ _ ?_
    clear hK2 K2
    simp only [Act.put, List.setIfInBounds_toArray, List.set_cons_zero, List.set_cons_succ]
    replace hT : T we := K1.out _ (below_only (K0.out _ hT) oE lE)
    refine ⟨hT, ?_⟩
    refine wpAnyH_done (by kernel_rfl) ?_ _
    refine ends_normal ?_
    exact ⟨D, E, rfl, hT, lD, lE, hDE, sD.only oE hDE, sE⟩
 case cont =>
  clear hT
  rintro D E wa ⟨hT, lD, lE, hDE, rD, rE⟩
  go_wp2_with (refine at_store _ _ _ rfl ?_)
  refine Stop.to ?_
  refine wpList_store_part rfl 27 _ _ rfl D 5 rfl (.slice none 0 0) rfl [.slice none 0 0] rfl 31 _ (cpM c (.slice none 0 0) c.sc) rD (by kernel_rfl) (by show 5 + 1 ≤ 9; omega) (by simp [Value.oneCell']) rfl ?_
  intro wb sD oD
  replace hT : T wb := K1.out _ (below_only (K0.out _ hT) oD lD)
  have rE := rE.only oD (Ne.symm hDE)
  go_wp2_with (refine at_store _ _ _ rfl ?_)
  refine Stop.to ?_
  refine wpList_store_part rfl 27 _ _ rfl E 5 rfl (.slice none 0 0) rfl [.slice none 0 0] rfl 31 _ (cpM c (.slice none 0 0) c.sc) rE (by kernel_rfl) (by show 5 + 1 ≤ 9; omega) (by simp [Value.oneCell']) rfl ?_
  intro wc sE oE
  replace hT : T wc := K1.out _ (below_only (K0.out _ hT) oE lE)
  have rD := sD.only oE (hDE)
  obtain ⟨p, hp⟩ : ∃ p : Nat → Bool, p = fun k : Nat => ((bits / 2 ^ (k % 64)).tmod 2 == 1) := ⟨_, rfl⟩
  have Hp : Hid (∀ k : Nat, p k = (((bits / 2 ^ (k % 64)).tmod 2 == 1))) := fun k => by rw [hp]
  clear hp
  have HL0 : Hid (PushR (w_5) D E c (.slice none 0 0) [] [] (cpM c (.slice none 0 0) c.sc) (.slice none 0 0) wc) := ⟨K0.out _ hT, rD, sE, World.ownsRow_nil _ _ _ _, World.ownsRow_nil _ _ _ _, fun g e => by cases e⟩
  clear rD rE sD sE oD oE hT
  have hmcI2 := hmcI
  go_wp2_with fail
  go_loopw [8] (fun i wr => ∃ (k : Nat) (v u : Value), i = .int .i64 (k : Int) ∧ k ≤ c.mts.length ∧ Hid (PushR (w_5) D E c u (partL p true 0 (c.mts.take k)) (partL p false 0 (c.mts.take k)) (cpM c u c.sc) v wr)) (fun i _ => c.mts.length - (intOf i).toNat)
  case atStart => exact ⟨0, _, _, rfl, Nat.zero_le _, HL0⟩
  case round =>
   clear HL0
   obtain ⟨k, v, u, rfl, hk, HR⟩ := hrel
   have hT : T wr := K1.out _ HR.out.bw
   by_cases hkn : k < c.mts.length
   · skip
     obtain ⟨x, hx⟩ : ∃ x, c.mts[k]? = some x := ⟨_, List.getElem?_eq_getElem hkn⟩
     have Hx := Lib.hid hx
     obtain ⟨ad, had, _⟩ := mt_at ((F_okc.out _ (TS.out _ hT))).mrd hx
     have Hc : Hid (∀ W, T W → ∀ i u, x.cells[i]? = some u → W.cell? ((ad.add (k * 8)).add i) = some u) := fun W hW => by
      obtain ⟨ad2, e1, e2⟩ := mt_at ((F_okc.out _ (TS.out W hW))).mrd Hx.out
      rw [had] at e1; injection e1 with e1; subst e1; exact e2
     have C5 : Hid (∀ W, T W → W.cell? ⟨G_1, 5, none⟩ = some (.slice (some ad) c.mts.length c.mcap)) := fun W hW => by rw [← had]; exact cp_mut (F_C.out _ (TS.out W hW))
     have hka : (k : Int) < (c.mts.length : Int) := by omega
     have cc := C5.out _ hT
     clear hx had
     have Hsd := Lib.hid (partL_step p true Hx.out)
     have Hse := Lib.hid (partL_step p false Hx.out)
     have hpk := Hp.out k
     cases hq : p k
     · skip
       rw [hq] at hpk
       have hpe : ((bits / 2 ^ (k % 64)).tmod 2 == 1) = false := hpk.symm
       clear hpk
       go_wp2_with fail
       clear cc
       obtain ⟨Vd, hVd⟩ : ∃ Vd, Vd = wr.drew := ⟨_, rfl⟩
       have bd : Below wr.heap.size wr Vd := by rw [hVd]; exact St.drew (S := fun W => Below wr.heap.size wr W) (Below.refl _ _)
       obtain ⟨T2, hT2d⟩ : ∃ T2, T2 = (fun W => T W ∧ Row W E 31 (cpM c u c.sc)) := ⟨_, rfl⟩
       have stT2 : St T2 := by rw [hT2d]; infer_instance
       have L0 : Hid (∀ W, T2 W → T W ∧ Row W E 31 (cpM c u c.sc)) := by show ∀ W, _; rw [hT2d]; exact fun W h => h
       have L2 : Hid (∀ W, T W → Row W E 31 (cpM c u c.sc) → T2 W) := by show ∀ W, _; rw [hT2d]; exact fun W h1 h2 => ⟨h1, h2⟩
       have hTd : T2 Vd := L2.out _ (stT.go hT bd) ((HR.out.swap).rD.below bd (HR.out.swap).rD.lt)
       clear hT2d
       refine wp_ends ?_
       refine region_last (last := 10) (S := T2) (by kernel_rfl) ?_
       simp only [List.size_toArray, List.length_cons, List.length_nil, Nat.reduceAdd, Array.replicate_succ, Array.replicate_zero, List.push_toArray, List.nil_append, List.cons_append]
       rw [← hVd]
       clear hVd hT
       (refine takeL (i := 0) (v := .pointer (some ⟨E, 5, none⟩)) rfl (by kernel_rfl) (by kernel_rfl) (by kernel_rfl) (by kernel_rfl) (fun _ _ _ h => h) (yieldsC_of (yields_val rfl (fun W hW => by (go_simp)))) (by assumption) ?_; simp only [Act.put, List.setIfInBounds_toArray, List.set_cons_zero, List.set_cons_succ])
       (refine takeL (i := 1) (v := u) rfl (by kernel_rfl) (by kernel_rfl) (by kernel_rfl) (by kernel_rfl) (fun _ _ _ h => h) (yieldsC_of (yields_val rfl (fun W hW => by ((have c := cpM_cell (L0.out W hW).2; go_simp))))) (by assumption) ?_; simp only [Act.put, List.setIfInBounds_toArray, List.set_cons_zero, List.set_cons_succ])
       (refine takeL (i := 2) (v := .pointer (some ⟨G_1, 5, none⟩)) rfl (by kernel_rfl) (by kernel_rfl) (by kernel_rfl) (by kernel_rfl) (fun _ _ _ h => h) (yieldsC_of (yields_val rfl (fun W hW => by (go_simp)))) (by assumption) ?_; simp only [Act.put, List.setIfInBounds_toArray, List.set_cons_zero, List.set_cons_succ])
       (refine takeL (i := 3) (v := .slice (some ad) c.mts.length c.mcap) rfl (by kernel_rfl) (by kernel_rfl) (by kernel_rfl) (by kernel_rfl) (fun _ _ _ h => h) (yieldsC_of (yields_val rfl (fun W hW => by ((have c := C5.out W (L0.out W hW).1; go_simp))))) (by assumption) ?_; simp only [Act.put, List.setIfInBounds_toArray, List.set_cons_zero, List.set_cons_succ])
       (refine takeL (i := 4) (v := .int .i64 (k : Int)) rfl (by kernel_rfl) (by kernel_rfl) (by kernel_rfl) (by kernel_rfl) (fun _ _ _ h => h) (yieldsC_of (yields_val rfl (fun W hW => by (go_simp)))) (by assumption) ?_; simp only [Act.put, List.setIfInBounds_toArray, List.set_cons_zero, List.set_cons_succ])
       (refine takeL (i := 5) (v := .pointer (some (ad.add (k * 8)))) rfl (by kernel_rfl) (by kernel_rfl) (by kernel_rfl) (by kernel_rfl) (fun _ _ _ h => h) (yieldsC_of (yields_val rfl (fun W hW => by (go_simp)))) (by assumption) ?_; simp only [Act.put, List.setIfInBounds_toArray, List.set_cons_zero, List.set_cons_succ])
       (refine takeL (i := 6) (v := _) rfl (by kernel_rfl) (by kernel_rfl) (by kernel_rfl) (by kernel_rfl) (fun _ _ _ h => h) (yieldsC_of ((yields_atp rfl 47 _ rfl (ad.add (k * 8)) rfl x.cells _ (fun W hW => Hc.out W (L0.out W hW).1) Tryz.underlying47 rfl (by kernel_rfl)))) (by assumption) ?_; simp only [Act.put, List.setIfInBounds_toArray, List.set_cons_zero, List.set_cons_succ])
       (refine wpAnyL_all (rs := [7]) (by kernel_rfl) (by simp) (fun i hi => ?_); obtain rfl : i = 7 := by simpa using hi)
       refine wpOp_plain rfl rfl (fun K2 hK2 => ?_)
       refine wp_res_gen (.slice (some ⟨Vd.heap.size, 0, none⟩) 1 1) (run_exec_bslice [(0, .tmp 62)] rfl (bs_run (cells := x.cells.toArray) Tryz.underlying27 info_mtz (by decide) (by decide) (by kernel_rfl) Vd)) ?_
       refine hK2 _ _ ?_
       clear hK2 K2
       simp only [Act.put, List.setIfInBounds_toArray, List.set_cons_zero, List.set_cons_succ]
       obtain ⟨M2, hM2⟩ : ∃ M2, M2 = Vd.heap.size := ⟨_, rfl⟩
       obtain ⟨V2, hV2⟩ : ∃ V2, V2 = Vd.alloc (.cells x.cells.toArray 47) := ⟨_, rfl⟩
       have Mr : Row V2 M2 47 x.cells.toArray := by rw [hV2, hM2]; exact Row.new _ _ _
       have Mb : Below Vd.heap.size Vd V2 := by rw [hV2]; exact (Below.refl _ _).alloc (Nat.le_refl _) _
       rw [← hM2, ← hV2]
       clear hM2 hV2
       have hT2 := stT2.go hTd Mb
       refine ⟨fun _ => hT2, ?_⟩
       have bm : Below wr.heap.size wr V2 := bd.trans (Mb.mono bd.size)
       obtain ⟨A3, c3, V3, hrun, hr3, hst⟩ := mt_push x (HR.out.swap) (Ne.symm hDE) lE (Nat.le_trans (partL_sub _ _ _ _).length_le (by rw [List.length_take]; omega)) bm Mr
       have hT3 := L2.out _ (K1.out _ hr3.1) hr3.2
       have r3 := hr3.2
       have f3 := r3.free 5
       have c3x := cpM_cell r3
       have Hst := Lib.hid hst
       have Hrun := Lib.hid hrun
       clear hrun hr3 hst bm Mr Mb hT2 hTd bd r3
       (refine wpAnyL_all (rs := [8]) (by kernel_rfl) (by simp) (fun i hi => ?_); obtain rfl : i = 8 := by simpa using hi)
       refine wpOp_plain rfl rfl (fun K2 hK2 => ?_)
       refine wp_res_gen _ (run_exec_append rfl Hrun.out) ?_
       refine hK2 _ _ ?_
       clear hK2 K2 Hrun
       simp only [Act.put, List.setIfInBounds_toArray, List.set_cons_zero, List.set_cons_succ]
       refine ⟨fun _ => hT3, ?_⟩
       (refine takeL (i := 9) (v := .pointer (some ⟨E, 5, none⟩)) rfl (by kernel_rfl) (by kernel_rfl) (by kernel_rfl) (by kernel_rfl) (fun _ _ _ h => h) (yieldsC_of (yields_val rfl (fun W hW => by (go_simp)))) (by assumption) ?_; simp only [Act.put, List.setIfInBounds_toArray, List.set_cons_zero, List.set_cons_succ])
       (refine wpAnyL_all (rs := [10]) (by kernel_rfl) (by simp) (fun i hi => ?_); obtain rfl : i = 10 := by simpa using hi)
       refine wpOp_plain rfl rfl (fun K2 hK2 => ?_)
       unfold Oper.wp
       go_simp
       refine hK2 _ _ ?_
       clear hK2 K2
       simp only [List.setIfInBounds_toArray, List.set_cons_zero, List.set_cons_succ]
       refine ⟨fun h => absurd rfl h, ?_⟩
       refine wpAnyL_done (by kernel_rfl) ?_ _
       refine ends_normal ?_
       clear f3 c3x hT3
       have HN := Hst.out.swap
       have e1 : partL p true 0 (c.mts.take (k + 1)) = partL p true 0 (c.mts.take k) := by rw [Hsd.out, hq]; simp
       have e2 : partL p false 0 (c.mts.take (k + 1)) = partL p false 0 (c.mts.take k) ++ [x] := by rw [Hse.out, hq]; rfl
       rw [← e1, ← e2] at HN
       have HN2 := Lib.hid HN
       clear HN e1 e2 Hst Hsd Hse hq hpe
       go_wp2_with fail
       exact ⟨⟨k + 1, _, _, by first | go_num | simp, by omega, HN2⟩, by simp only [intOf]; omega⟩
     · skip
       rw [hq] at hpk
       have hpe : ((bits / 2 ^ (k % 64)).tmod 2 == 1) = true := hpk.symm
       clear hpk
       go_wp2_with fail
       clear cc
       obtain ⟨Vd, hVd⟩ : ∃ Vd, Vd = wr.drew := ⟨_, rfl⟩
       have bd : Below wr.heap.size wr Vd := by rw [hVd]; exact St.drew (S := fun W => Below wr.heap.size wr W) (Below.refl _ _)
       obtain ⟨T2, hT2d⟩ : ∃ T2, T2 = (fun W => T W ∧ Row W D 31 (cpM c v c.sc)) := ⟨_, rfl⟩
       have stT2 : St T2 := by rw [hT2d]; infer_instance
       have L0 : Hid (∀ W, T2 W → T W ∧ Row W D 31 (cpM c v c.sc)) := by show ∀ W, _; rw [hT2d]; exact fun W h => h
       have L2 : Hid (∀ W, T W → Row W D 31 (cpM c v c.sc) → T2 W) := by show ∀ W, _; rw [hT2d]; exact fun W h1 h2 => ⟨h1, h2⟩
       have hTd : T2 Vd := L2.out _ (stT.go hT bd) ((HR.out).rD.below bd (HR.out).rD.lt)
       clear hT2d
       refine wp_ends ?_
       refine region_last (last := 10) (S := T2) (by kernel_rfl) ?_
       simp only [List.size_toArray, List.length_cons, List.length_nil, Nat.reduceAdd, Array.replicate_succ, Array.replicate_zero, List.push_toArray, List.nil_append, List.cons_append]
       rw [← hVd]
       clear hVd hT
       (refine takeL (i := 0) (v := .pointer (some ⟨D, 5, none⟩)) rfl (by kernel_rfl) (by kernel_rfl) (by kernel_rfl) (by kernel_rfl) (fun _ _ _ h => h) (yieldsC_of (yields_val rfl (fun W hW => by (go_simp)))) (by assumption) ?_; simp only [Act.put, List.setIfInBounds_toArray, List.set_cons_zero, List.set_cons_succ])
       (refine takeL (i := 1) (v := v) rfl (by kernel_rfl) (by kernel_rfl) (by kernel_rfl) (by kernel_rfl) (fun _ _ _ h => h) (yieldsC_of (yields_val rfl (fun W hW => by ((have c := cpM_cell (L0.out W hW).2; go_simp))))) (by assumption) ?_; simp only [Act.put, List.setIfInBounds_toArray, List.set_cons_zero, List.set_cons_succ])
       (refine takeL (i := 2) (v := .pointer (some ⟨G_1, 5, none⟩)) rfl (by kernel_rfl) (by kernel_rfl) (by kernel_rfl) (by kernel_rfl) (fun _ _ _ h => h) (yieldsC_of (yields_val rfl (fun W hW => by (go_simp)))) (by assumption) ?_; simp only [Act.put, List.setIfInBounds_toArray, List.set_cons_zero, List.set_cons_succ])
       (refine takeL (i := 3) (v := .slice (some ad) c.mts.length c.mcap) rfl (by kernel_rfl) (by kernel_rfl) (by kernel_rfl) (by kernel_rfl) (fun _ _ _ h => h) (yieldsC_of (yields_val rfl (fun W hW => by ((have c := C5.out W (L0.out W hW).1; go_simp))))) (by assumption) ?_; simp only [Act.put, List.setIfInBounds_toArray, List.set_cons_zero, List.set_cons_succ])
       (refine takeL (i := 4) (v := .int .i64 (k : Int)) rfl (by kernel_rfl) (by kernel_rfl) (by kernel_rfl) (by kernel_rfl) (fun _ _ _ h => h) (yieldsC_of (yields_val rfl (fun W hW => by (go_simp)))) (by assumption) ?_; simp only [Act.put, List.setIfInBounds_toArray, List.set_cons_zero, List.set_cons_succ])
       (refine takeL (i := 5) (v := .pointer (some (ad.add (k * 8)))) rfl (by kernel_rfl) (by kernel_rfl) (by kernel_rfl) (by kernel_rfl) (fun _ _ _ h => h) (yieldsC_of (yields_val rfl (fun W hW => by (go_simp)))) (by assumption) ?_; simp only [Act.put, List.setIfInBounds_toArray, List.set_cons_zero, List.set_cons_succ])
       (refine takeL (i := 6) (v := _) rfl (by kernel_rfl) (by kernel_rfl) (by kernel_rfl) (by kernel_rfl) (fun _ _ _ h => h) (yieldsC_of ((yields_atp rfl 47 _ rfl (ad.add (k * 8)) rfl x.cells _ (fun W hW => Hc.out W (L0.out W hW).1) Tryz.underlying47 rfl (by kernel_rfl)))) (by assumption) ?_; simp only [Act.put, List.setIfInBounds_toArray, List.set_cons_zero, List.set_cons_succ])
       (refine wpAnyL_all (rs := [7]) (by kernel_rfl) (by simp) (fun i hi => ?_); obtain rfl : i = 7 := by simpa using hi)
       refine wpOp_plain rfl rfl (fun K2 hK2 => ?_)
       refine wp_res_gen (.slice (some ⟨Vd.heap.size, 0, none⟩) 1 1) (run_exec_bslice [(0, .tmp 52)] rfl (bs_run (cells := x.cells.toArray) Tryz.underlying27 info_mtz (by decide) (by decide) (by kernel_rfl) Vd)) ?_
       refine hK2 _ _ ?_
       clear hK2 K2
       simp only [Act.put, List.setIfInBounds_toArray, List.set_cons_zero, List.set_cons_succ]
       obtain ⟨M2, hM2⟩ : ∃ M2, M2 = Vd.heap.size := ⟨_, rfl⟩
       obtain ⟨V2, hV2⟩ : ∃ V2, V2 = Vd.alloc (.cells x.cells.toArray 47) := ⟨_, rfl⟩
       have Mr : Row V2 M2 47 x.cells.toArray := by rw [hV2, hM2]; exact Row.new _ _ _
       have Mb : Below Vd.heap.size Vd V2 := by rw [hV2]; exact (Below.refl _ _).alloc (Nat.le_refl _) _
       rw [← hM2, ← hV2]
       clear hM2 hV2
       have hT2 := stT2.go hTd Mb
       refine ⟨fun _ => hT2, ?_⟩
       have bm : Below wr.heap.size wr V2 := bd.trans (Mb.mono bd.size)
       obtain ⟨A3, c3, V3, hrun, hr3, hst⟩ := mt_push x (HR.out) (hDE) lD (Nat.le_trans (partL_sub _ _ _ _).length_le (by rw [List.length_take]; omega)) bm Mr
       have hT3 := L2.out _ (K1.out _ hr3.1) hr3.2
       have r3 := hr3.2
       have f3 := r3.free 5
       have c3x := cpM_cell r3
       have Hst := Lib.hid hst
       have Hrun := Lib.hid hrun
       clear hrun hr3 hst bm Mr Mb hT2 hTd bd r3
       (refine wpAnyL_all (rs := [8]) (by kernel_rfl) (by simp) (fun i hi => ?_); obtain rfl : i = 8 := by simpa using hi)
       refine wpOp_plain rfl rfl (fun K2 hK2 => ?_)
       refine wp_res_gen _ (run_exec_append rfl Hrun.out) ?_
       refine hK2 _ _ ?_
       clear hK2 K2 Hrun
       simp only [Act.put, List.setIfInBounds_toArray, List.set_cons_zero, List.set_cons_succ]
       refine ⟨fun _ => hT3, ?_⟩
       (refine takeL (i := 9) (v := .pointer (some ⟨D, 5, none⟩)) rfl (by kernel_rfl) (by kernel_rfl) (by kernel_rfl) (by kernel_rfl) (fun _ _ _ h => h) (yieldsC_of (yields_val rfl (fun W hW => by (go_simp)))) (by assumption) ?_; simp only [Act.put, List.setIfInBounds_toArray, List.set_cons_zero, List.set_cons_succ])
       (refine wpAnyL_all (rs := [10]) (by kernel_rfl) (by simp) (fun i hi => ?_); obtain rfl : i = 10 := by simpa using hi)
       refine wpOp_plain rfl rfl (fun K2 hK2 => ?_)
       unfold Oper.wp
       go_simp
       refine hK2 _ _ ?_
       clear hK2 K2
       simp only [List.setIfInBounds_toArray, List.set_cons_zero, List.set_cons_succ]
       refine ⟨fun h => absurd rfl h, ?_⟩
       refine wpAnyL_done (by kernel_rfl) ?_ _
       refine ends_normal ?_
       clear f3 c3x hT3
       have HN := Hst.out
       have e1 : partL p true 0 (c.mts.take (k + 1)) = partL p true 0 (c.mts.take k) ++ [x] := by rw [Hsd.out, hq]; rfl
       have e2 : partL p false 0 (c.mts.take (k + 1)) = partL p false 0 (c.mts.take k) := by rw [Hse.out, hq]; simp
       rw [← e1, ← e2] at HN
       have HN2 := Lib.hid HN
       clear HN e1 e2 Hst Hsd Hse hq hpe
       go_wp2_with fail
       exact ⟨⟨k + 1, _, _, by first | go_num | simp, by omega, HN2⟩, by simp only [intOf]; omega⟩
   obtain rfl : k = c.mts.length := by omega
   have hge : ¬ ((c.mts.length : Int) < (c.mts.length : Int)) := by omega
   have hR := HR.out
   rw [List.take_length] at hR
   obtain ⟨ds, hds⟩ : ∃ ds, ds = partL p true 0 c.mts := ⟨_, rfl⟩
   obtain ⟨es, hes⟩ : ∃ es, es = partL p false 0 c.mts := ⟨_, rfl⟩
   rw [← hds, ← hes] at hR
   have HPd : Hid (∀ A cap, PartC c (partC c A cap ds) p true) := fun A cap => by rw [hds]; exact partC_part c A cap p true
   have HPe : Hid (∀ A cap, PartC c (partC c A cap es) p false) := fun A cap => by rw [hes]; exact partC_part c A cap p false
   have HSd : Hid ((∀ x ∈ ds, x ∈ c.mts) ∧ ds.length ≤ c.mts.length) := by rw [hds]; exact ⟨fun x hx => (partL_sub _ _ _ _).subset hx, (partL_sub _ _ _ _).length_le⟩
   have HSe : Hid ((∀ x ∈ es, x ∈ c.mts) ∧ es.length ≤ c.mts.length) := by rw [hes]; exact ⟨fun x hx => (partL_sub _ _ _ _).subset hx, (partL_sub _ _ _ _).length_le⟩
   clear hds hes HR hkn hk Hp
   obtain ⟨Ad, capd, rfl, -, hld, -, hnd, -⟩ := own_rdN hR.oD
   obtain ⟨Ae, cape, rfl, -, hle, -, hne, -⟩ := own_rdN hR.oE
   have HR2 := Lib.hid hR
   have cc := cp_mut (F_C.out _ (TS.out _ hT))
   clear hR
   go_wp2_with fail
   clear cc
   obtain ⟨T2, hT2d⟩ : ∃ T2, T2 = (fun W => (T W ∧ W.ownsRow (w_5).heap.size 47 8 (.slice Ad ds.length capd) ds.length (mtsC ds) ∧ W.ownsRow (w_5).heap.size 47 8 (.slice Ae es.length cape) es.length (mtsC es)) ∧ (∃ s, Row W D 31 (cpM c (.slice Ad ds.length capd) s)) ∧ ∃ s, Row W E 31 (cpM c (.slice Ae es.length cape) s)) := ⟨_, rfl⟩
   have L0 : Hid (∀ W, T2 W → (T W ∧ W.ownsRow (w_5).heap.size 47 8 (.slice Ad ds.length capd) ds.length (mtsC ds) ∧ W.ownsRow (w_5).heap.size 47 8 (.slice Ae es.length cape) es.length (mtsC es)) ∧ (∃ s, Row W D 31 (cpM c (.slice Ad ds.length capd) s)) ∧ ∃ s, Row W E 31 (cpM c (.slice Ae es.length cape) s)) := by show ∀ W, _; rw [hT2d]; exact fun W h => h
   have L2 : Hid (∀ W, T W → W.ownsRow (w_5).heap.size 47 8 (.slice Ad ds.length capd) ds.length (mtsC ds) → W.ownsRow (w_5).heap.size 47 8 (.slice Ae es.length cape) es.length (mtsC es) → (∃ s, Row W D 31 (cpM c (.slice Ad ds.length capd) s)) → (∃ s, Row W E 31 (cpM c (.slice Ae es.length cape) s)) → T2 W) := by show ∀ W, _; rw [hT2d]; exact fun W h1 h2 h3 h4 h5 => ⟨⟨h1, h2, h3⟩, h4, h5⟩
   have stT2 : St T2 := ⟨fun {W W2} h b => L2.out W2 (stT.go (L0.out _ h).1.1 b) (own_below (L0.out _ h).1.2.1 b) (own_below (L0.out _ h).1.2.2 b) (by obtain ⟨s, hs⟩ := (L0.out _ h).2.1; exact ⟨s, hs.below b hs.lt⟩) (by obtain ⟨s, hs⟩ := (L0.out _ h).2.2; exact ⟨s, hs.below b hs.lt⟩)⟩
   have CD : Hid (∀ W, T2 W → W.cell? ⟨D, 5, none⟩ = some (.slice Ad ds.length capd)) := fun W h => by obtain ⟨s, hs⟩ := (L0.out _ h).2.1; exact cpM_cell hs
   have CE : Hid (∀ W, T2 W → W.cell? ⟨E, 5, none⟩ = some (.slice Ae es.length cape)) := fun W h => by obtain ⟨s, hs⟩ := (L0.out _ h).2.2; exact cpM_cell hs
   have hT2 : T2 wr := L2.out _ hT HR2.out.oD HR2.out.oE ⟨_, HR2.out.rD⟩ ⟨_, HR2.out.rE⟩
   clear hT2d
   have rD := HR2.out.rD
   have rE := HR2.out.rE
   have bdr : Below wr.heap.size wr wr.drew := St.drew (S := fun W => Below wr.heap.size wr W) (Below.refl _ _)
   replace rD := rD.below bdr rD.lt
   replace rE := rE.below bdr rE.lt
   clear bdr hT
   refine wp_region_held (S := T2) (by kernel_rfl) ?_
   simp only [List.size_toArray, List.length_cons, List.length_nil, Nat.reduceAdd, Array.replicate_succ, Array.replicate_zero, List.push_toArray, List.nil_append, List.cons_append]
   show wpAnyH _ _ _ _ _ _ _ _ wr.drew
   replace hT2 := St.drew hT2
   generalize wr.drew = wd at hT2 rD rE ⊢
   (refine takeH (i := 0) (v := .pointer (some ⟨D, 5, none⟩)) rfl (by kernel_rfl) (by kernel_rfl) (by kernel_rfl) (fun _ _ _ h => h) (yields_val rfl (fun W hW => by (go_simp))) (by assumption) ?_; simp only [Act.put, List.setIfInBounds_toArray, List.set_cons_zero, List.set_cons_succ])
   (refine takeH (i := 1) (v := .slice Ad ds.length capd) rfl (by kernel_rfl) (by kernel_rfl) (by kernel_rfl) (fun _ _ _ h => h) (yields_val rfl (fun W hW => by ((have c := CD.out W hW; go_simp)))) (by assumption) ?_; simp only [Act.put, List.setIfInBounds_toArray, List.set_cons_zero, List.set_cons_succ])
   (refine takeH (i := 3) (v := .pointer (some ⟨E, 5, none⟩)) rfl (by kernel_rfl) (by kernel_rfl) (by kernel_rfl) (fun _ _ _ h => h) (yields_val rfl (fun W hW => by (go_simp))) (by assumption) ?_; simp only [Act.put, List.setIfInBounds_toArray, List.set_cons_zero, List.set_cons_succ])
   (refine takeH (i := 4) (v := .slice Ae es.length cape) rfl (by kernel_rfl) (by kernel_rfl) (by kernel_rfl) (fun _ _ _ h => h) (yields_val rfl (fun W hW => by ((have c := CE.out W hW; go_simp)))) (by assumption) ?_; simp only [Act.put, List.setIfInBounds_toArray, List.set_cons_zero, List.set_cons_succ])
   (refine wpAnyH_all (rs := [2]) (by kernel_rfl) (by simp) (fun i hi => ?_); obtain rfl : i = 2 := by simpa using hi)
   refine wpOp_plain rfl rfl (fun K2 hK2 => ?_)
   refine wp_call_gen 24 #[.slice Ad ds.length capd] (w1 := wd) (by go_simp; try rfl) (Calls.mono (score_any Ad capd ds wd (own_rdS (L0.out _ hT2).1.2.1) (by have := HSd.out.2; omega)) ?_)
   rintro e we ⟨rfl, bb⟩
   refine ⟨_, rfl, hK2 _ _ ?_⟩
   clear hK2 K2
   simp only [Act.put, List.setIfInBounds_toArray, List.set_cons_zero, List.set_cons_succ]
   replace hT2 := stT2.go hT2 bb
   replace rD := rD.below bb rD.lt
   replace rE := rE.below bb rE.lt
   clear bb
   refine ⟨hT2, ?_⟩
   (refine takeH (i := 6) (v := .pointer (some ⟨D, 6, none⟩)) rfl (by kernel_rfl) (by kernel_rfl) (by kernel_rfl) (fun _ _ _ h => h) (yields_val rfl (fun W hW => by (go_simp))) (by assumption) ?_; simp only [Act.put, List.setIfInBounds_toArray, List.set_cons_zero, List.set_cons_succ])
   (refine wpAnyH_all (rs := [5]) (by kernel_rfl) (by simp) (fun i hi => ?_); obtain rfl : i = 5 := by simpa using hi)
   refine wpOp_plain rfl rfl (fun K2 hK2 => ?_)
   refine wp_call_gen 24 #[.slice Ae es.length cape] (w1 := we) (by go_simp; try rfl) (Calls.mono (score_any Ae cape es we (own_rdS (L0.out _ hT2).1.2.2) (by have := HSe.out.2; omega)) ?_)
   rintro e wf ⟨rfl, bb⟩
   refine ⟨_, rfl, hK2 _ _ ?_⟩
   clear hK2 K2
   simp only [Act.put, List.setIfInBounds_toArray, List.set_cons_zero, List.set_cons_succ]
   replace hT2 := stT2.go hT2 bb
   replace rD := rD.below bb rD.lt
   replace rE := rE.below bb rE.lt
   clear bb
   refine ⟨hT2, ?_⟩
   (refine wpAnyH_all (rs := [7]) (by kernel_rfl) (by simp) (fun i hi => ?_); obtain rfl : i = 7 := by simpa using hi)
   refine wpOp_plain rfl rfl (fun K2 hK2 => ?_)
   refine wp_store_part 29 _ _ rfl D 6 rfl (.agg (scoreZ (ds.map MtV.m)).cells) rfl (scoreZ (ds.map MtV.m)).cells.toList rfl 31 _ (cpM c (.slice Ad ds.length capd) (scoreZ (ds.map MtV.m))) rD (by kernel_rfl) (by show 6 + 3 ≤ 9; omega) (by simp [Sc.cells, Value.oneCell']) rfl ?_
   intro wg sD oD
   refine hK2 _ _ ?_
   clear hK2 K2
   simp only [Act.put, List.setIfInBounds_toArray, List.set_cons_zero, List.set_cons_succ]
   replace hT2 : T2 wg := L2.out _ (K1.out _ (below_only (K0.out _ (L0.out _ hT2).1.1) oD lD)) (own_only (L0.out _ hT2).1.2.1 oD (own_ne (L0.out _ hT2).1.2.1 rD (by decide))) (own_only (L0.out _ hT2).1.2.2 oD (own_ne (L0.out _ hT2).1.2.2 rD (by decide))) ⟨_, sD⟩ ⟨_, rE.only oD (Ne.symm hDE)⟩
   replace rE := rE.only oD (Ne.symm hDE)
   refine ⟨hT2, ?_⟩
   (refine takeH (i := 8) (v := .pointer (some ⟨E, 6, none⟩)) rfl (by kernel_rfl) (by kernel_rfl) (by kernel_rfl) (fun _ _ _ h => h) (yields_val rfl (fun W hW => by (go_simp))) (by assumption) ?_; simp only [Act.put, List.setIfInBounds_toArray, List.set_cons_zero, List.set_cons_succ])
   (refine wpAnyH_all (rs := [9]) (by kernel_rfl) (by simp) (fun i hi => ?_); obtain rfl : i = 9 := by simpa using hi)
   refine wpOp_plain rfl rfl (fun K2 hK2 => ?_)
   refine wp_store_part 29 _ _ rfl E 6 rfl (.agg (scoreZ (es.map MtV.m)).cells) rfl (scoreZ (es.map MtV.m)).cells.toList rfl 31 _ (cpM c (.slice Ae es.length cape) (scoreZ (es.map MtV.m))) rE (by kernel_rfl) (by show 6 + 3 ≤ 9; omega) (by simp [Sc.cells, Value.oneCell']) rfl ?_
   intro wh sE oE
   refine hK2 _ _ ?_
   clear hK2 K2
   simp only [Act.put, List.setIfInBounds_toArray, List.set_cons_zero, List.set_cons_succ]
   replace hT2 : T2 wh := L2.out _ (K1.out _ (below_only (K0.out _ (L0.out _ hT2).1.1) oE lE)) (own_only (L0.out _ hT2).1.2.1 oE (own_ne (L0.out _ hT2).1.2.1 rE (by decide))) (own_only (L0.out _ hT2).1.2.2 oE (own_ne (L0.out _ hT2).1.2.2 rE (by decide))) ⟨_, sD.only oE hDE⟩ ⟨_, sE⟩
   replace rD := sD.only oE (hDE)
   refine ⟨hT2, ?_⟩
   refine wpAnyH_done (by kernel_rfl) ?_ _
   have hSX := TS.out _ (L0.out _ hT2).1.1
   have hokc := (F_okc.out _ hSX)
   have hlow := (F_low.out _ (D1.out _ hSX))
   have hrC := (F_C.out _ hSX)
   have hokd : CpOk wh (partC c Ad capd ds) := partC_ok hokc HSd.out.1 HSd.out.2 (own_rdS (L0.out _ hT2).1.2.1) (fun e => List.eq_nil_of_length_eq_zero (by have h1 := hnd e; omega))
   have hoke : CpOk wh (partC c Ae cape es) := partC_ok hokc HSe.out.1 HSe.out.2 (own_rdS (L0.out _ hT2).1.2.2) (fun e => List.eq_nil_of_length_eq_zero (by have h1 := hne e; omega))
   obtain ⟨S2, hSd⟩ : ∃ S : World → Prop, S = (fun W => Below w.heap.size w W ∧ Row W G_1 31 c.cells ∧ CpOk W c ∧ Row W D 31 (partC c Ad capd ds).cells ∧ CpOk W (partC c Ad capd ds) ∧ Row W E 31 (partC c Ae cape es).cells ∧ CpOk W (partC c Ae cape es)) := ⟨_, rfl⟩
   have st2 : St S2 := by rw [hSd]; infer_instance
   have F_low2 : Hid (∀ W, S2 W → Below w.heap.size w W) := by show ∀ W, _; rw [hSd]; exact fun W h => h.1
   have F_C2 : Hid (∀ W, S2 W → Row W G_1 31 c.cells) := by show ∀ W, _; rw [hSd]; exact fun W h => h.2.1
   have F_okc2 : Hid (∀ W, S2 W → CpOk W c) := by show ∀ W, _; rw [hSd]; exact fun W h => h.2.2.1
   have F_D2x : Hid (∀ W, S2 W → Row W D 31 (partC c Ad capd ds).cells) := by show ∀ W, _; rw [hSd]; exact fun W h => h.2.2.2.1
   have F_okd : Hid (∀ W, S2 W → CpOk W (partC c Ad capd ds)) := by show ∀ W, _; rw [hSd]; exact fun W h => h.2.2.2.2.1
   have F_E2x : Hid (∀ W, S2 W → Row W E 31 (partC c Ae cape es).cells) := by show ∀ W, _; rw [hSd]; exact fun W h => h.2.2.2.2.2.1
   have F_oke : Hid (∀ W, S2 W → CpOk W (partC c Ae cape es)) := by show ∀ W, _; rw [hSd]; exact fun W h => h.2.2.2.2.2.2
   have HS2 : Hid (S2 wh) := by show S2 wh; rw [hSd]; exact ⟨hlow, hrC, hokc, rD, hokd, sE, hoke⟩
   clear hSd
   clear hSX hokc hlow hrC hokd hoke rD sD rE sE oD oE hT2 L0 L2 stT2 CD CE hnd hne hld hle K0 K1 TS stT
   skip
   have HP1 := Lib.hid ((HPd.out Ad capd).joins HO.out)
   have HP2 := Lib.hid ((HPd.out Ad capd).both (HPe.out Ae cape) HO.out)
   have HP3 : Hid (diffL c.muts (partC c Ad capd ds).muts = (es.map MtV.m).map fun m => (m.d, m.verdict, -1)) := (HPd.out Ad capd).diff (HPe.out Ae cape) HO.out
   have HE3 : Hid (diffE c (partC c Ad capd ds) = 0) := diffE_of HO.out HP1.out.1.hb (sameS_iff.1 HP1.out.1.same |> fun h => by unfold sameP; exact decide_eq_true h.1)
   have hleE : (es.length : Int) ≤ 250 := by have := HSe.out.2; have := Hmc.out; omega
   go_wp2_with (first | (refine wpList_load_row rfl 31 _ rfl G_1 rfl 31 c.cells (0, 0) _ (F_C2.out _ HS2.out) Tryz.underlying31 rfl (by kernel_rfl) ?_) | (refine wpList_load_row rfl 31 _ rfl D rfl 31 (partC c Ad capd ds).cells (0, 0) _ (F_D2x.out _ HS2.out) Tryz.underlying31 rfl (by kernel_rfl) ?_))
   refine (merge_any c (partC c Ad capd ds) wh (F_okc2.out _ HS2.out) (F_okd.out _ HS2.out)).mono ?_
   rintro e w_6 ⟨cx, rfl, hcx, hdx, bb, -⟩
   rw [mgZ_0 HP1.out.1, HP1.out.2] at hdx
   have Hx := Lib.hid hdx
   clear hdx
   rw [mergeE_0.2 HP1.out.1]
   have hprev := st2.go HS2.out (bb)
   obtain ⟨S3, hSd⟩ : ∃ S : World → Prop, S = (fun W => S2 W ∧ CpOk W cx) := ⟨_, rfl⟩
   have st3 : St S3 := by rw [hSd]; infer_instance
   have D3 : Hid (∀ W, S3 W → S2 W) := by show ∀ W, _; rw [hSd]; exact fun W h => h.1
   have F_okcx : Hid (∀ W, S3 W → CpOk W cx) := by show ∀ W, _; rw [hSd]; exact fun W h => h.2
   have HS3 : Hid (S3 w_6) := by show S3 w_6; rw [hSd]; exact ⟨hprev, hcx⟩
   clear hSd
   clear hprev HS2 bb hcx
   go_wp2_with (refine at_alloc _ rfl ?_)
   refine Stop.to ?_
   refine wpList_alloc_gen rfl 31 rfl _ _ (zero_cp _) rfl ?_
   intro G_7 w_8 hG rG bG
   go_wp2_with (refine at_store _ _ _ rfl ?_)
   refine Stop.to ?_
   refine wpList_store_gen rfl 31 _ _ rfl G_7 cx.cells rfl rfl 31 _ rG (by kernel_rfl) rfl (by simp [CpV.cells, Value.oneCell']) ?_
   intro w_9 rH oH
   have bH : Below (w_6).heap.size w_6 w_9 := (bG.mono hG).trans (oH.below hG)
   have hprev := st3.go HS3.out (bH)
   obtain ⟨S4, hSd⟩ : ∃ S : World → Prop, S = (fun W => S3 W ∧ Row W G_7 31 cx.cells) := ⟨_, rfl⟩
   have st4 : St S4 := by rw [hSd]; infer_instance
   have D4 : Hid (∀ W, S4 W → S3 W) := by show ∀ W, _; rw [hSd]; exact fun W h => h.1
   have F_X : Hid (∀ W, S4 W → Row W G_7 31 cx.cells) := by show ∀ W, _; rw [hSd]; exact fun W h => h.2
   have HS4 : Hid (S4 w_9) := by show S4 w_9; rw [hSd]; exact ⟨hprev, rH⟩
   clear hSd
   clear hprev HS3 hG rG bG rH oH bH
   go_wp2_with (first | (refine wpList_load_row rfl 31 _ rfl D rfl 31 (partC c Ad capd ds).cells (0, 0) _ (F_D2x.out _ (D3.out _ (D4.out _ HS4.out))) Tryz.underlying31 rfl (by kernel_rfl) ?_) | (refine wpList_load_row rfl 31 _ rfl E rfl 31 (partC c Ae cape es).cells (0, 0) _ (F_E2x.out _ (D3.out _ (D4.out _ HS4.out))) Tryz.underlying31 rfl (by kernel_rfl) ?_))
   refine (merge_any (partC c Ad capd ds) (partC c Ae cape es) w_9 (F_okd.out _ (D3.out _ (D4.out _ HS4.out))) (F_oke.out _ (D3.out _ (D4.out _ HS4.out)))).mono ?_
   rintro e w_10 ⟨cy, rfl, hcx, hdx, bb, -⟩
   rw [mgZ_0 HP2.out.1, HP2.out.2.1] at hdx
   have Hy := Lib.hid hdx
   clear hdx
   rw [mergeE_0.2 HP2.out.1]
   have hprev := st4.go HS4.out (bb)
   obtain ⟨S5, hSd⟩ : ∃ S : World → Prop, S = (fun W => S4 W ∧ CpOk W cy) := ⟨_, rfl⟩
   have st5 : St S5 := by rw [hSd]; infer_instance
   have D5 : Hid (∀ W, S5 W → S4 W) := by show ∀ W, _; rw [hSd]; exact fun W h => h.1
   have F_okcy : Hid (∀ W, S5 W → CpOk W cy) := by show ∀ W, _; rw [hSd]; exact fun W h => h.2
   have HS5 : Hid (S5 w_10) := by show S5 w_10; rw [hSd]; exact ⟨hprev, hcx⟩
   clear hSd
   clear hprev HS4 bb hcx
   go_wp2_with (refine at_alloc _ rfl ?_)
   refine Stop.to ?_
   refine wpList_alloc_gen rfl 31 rfl _ _ (zero_cp _) rfl ?_
   intro G_11 w_12 hG rG bG
   go_wp2_with (refine at_store _ _ _ rfl ?_)
   refine Stop.to ?_
   refine wpList_store_gen rfl 31 _ _ rfl G_11 cy.cells rfl rfl 31 _ rG (by kernel_rfl) rfl (by simp [CpV.cells, Value.oneCell']) ?_
   intro w_13 rH oH
   have bH : Below (w_10).heap.size w_10 w_13 := (bG.mono hG).trans (oH.below hG)
   have hprev := st5.go HS5.out (bH)
   obtain ⟨S6, hSd⟩ : ∃ S : World → Prop, S = (fun W => S5 W ∧ Row W G_11 31 cy.cells) := ⟨_, rfl⟩
   have st6 : St S6 := by rw [hSd]; infer_instance
   have D6 : Hid (∀ W, S6 W → S5 W) := by show ∀ W, _; rw [hSd]; exact fun W h => h.1
   have F_Y : Hid (∀ W, S6 W → Row W G_11 31 cy.cells) := by show ∀ W, _; rw [hSd]; exact fun W h => h.2
   have HS6 : Hid (S6 w_13) := by show S6 w_13; rw [hSd]; exact ⟨hprev, rH⟩
   clear hSd
   clear hprev HS5 hG rG bG rH oH bH
   go_wp2_with (first | (refine wpList_load_row rfl 31 _ rfl G_1 rfl 31 c.cells (0, 0) _ (F_C2.out _ (D3.out _ (D4.out _ (D5.out _ (D6.out _ HS6.out))))) Tryz.underlying31 rfl (by kernel_rfl) ?_) | (refine wpList_load_row rfl 31 _ rfl D rfl 31 (partC c Ad capd ds).cells (0, 0) _ (F_D2x.out _ (D3.out _ (D4.out _ (D5.out _ (D6.out _ HS6.out))))) Tryz.underlying31 rfl (by kernel_rfl) ?_))
   refine (diff_any c (partC c Ad capd ds) w_13 (F_okc2.out _ (D3.out _ (D4.out _ (D5.out _ (D6.out _ HS6.out))))) (F_okd.out _ (D3.out _ (D4.out _ (D5.out _ (D6.out _ HS6.out)))))).mono ?_
   rintro e w_14 ⟨A1, p1, cs, rfl, hrd, -, -, hdl, hdat, bb, -⟩
   rw [if_pos HE3.out, HP3.out] at hdat
   have Hd3 := Lib.hid hdat
   have hlen : cs.length = es.length := by have h := congrArg List.length hdat; simpa using h
   rw [HE3.out, hlen]
   have Hlen := Lib.hid hlen
   clear hdat hlen
   have hprev := st6.go HS6.out (bb)
   obtain ⟨S7, hSd⟩ : ∃ S : World → Prop, S = (fun W => S6 W ∧ Rd W A1 (chsC cs) ∧ ∀ c ∈ cs, DlOk W c.x) := ⟨_, rfl⟩
   have st7 : St S7 := by rw [hSd]; infer_instance
   have D7 : Hid (∀ W, S7 W → S6 W) := by show ∀ W, _; rw [hSd]; exact fun W h => h.1
   have F_rdcs : Hid (∀ W, S7 W → Rd W A1 (chsC cs)) := by show ∀ W, _; rw [hSd]; exact fun W h => h.2.1
   have F_dlcs : Hid (∀ W, S7 W → ∀ c ∈ cs, DlOk W c.x) := by show ∀ W, _; rw [hSd]; exact fun W h => h.2.2
   have HS7 : Hid (S7 w_14) := by show S7 w_14; rw [hSd]; exact ⟨hprev, hrd, (fun c hc => (hdl c hc).ok)⟩
   clear hSd
   clear hprev HS6 bb hrd hdl
   have ce := cp_mut (F_E2x.out _ (D3.out _ (D4.out _ (D5.out _ (D6.out _ (D7.out _ HS7.out))))))
   rw [show ((partC c Ae cape es)).mts.length = es.length from rfl, show ((partC c Ae cape es)).mA = Ae from rfl, show ((partC c Ae cape es)).mcap = cape from rfl] at ce
   have h0S := HS7.out
   go_wp2_with fail
   clear ce
   go_loopw [15] (fun i wr => ∃ k : Nat, i = .int .i64 (k : Int) ∧ k ≤ es.length ∧ S7 wr) (fun i _ => es.length - (intOf i).toNat)
   case atStart => exact ⟨0, rfl, Nat.zero_le _, h0S⟩
   case round =>
    clear h0S HS7
    obtain ⟨k, rfl, hk, hS9⟩ := hrel
    by_cases hkn : k < es.length
    · skip
      obtain ⟨x, hx⟩ : ∃ x, es[k]? = some x := ⟨_, List.getElem?_eq_getElem hkn⟩
      obtain ⟨g, hg⟩ : ∃ g, cs[k]? = some g := ⟨_, List.getElem?_eq_getElem (by rw [Hlen.out]; exact hkn)⟩
      have hdt : g.data = (x.m.d, x.m.verdict, -1) := by
       have h : (cs.map ChV.data)[k]? = some g.data := by rw [List.getElem?_map, hg]; rfl
       rw [Hd3.out, List.getElem?_map, List.getElem?_map, hx] at h
       exact (Option.some.inj h).symm
      have hd1 : g.x.d = x.m.d := congrArg (fun p => p.1) hdt
      have hd2 : g.a = x.m.verdict := congrArg (fun p => p.2.1) hdt
      have hd3 : g.b = -1 := congrArg (fun p => p.2.2) hdt
      have Hds : Hid (decide (cmpD g.x.d x.m.d = 0) = true) := by show _ = _; rw [hd1, cmpD_self]; rfl
      have hq1 : (g.a != x.m.verdict) = false := by rw [hd2]; simp
      obtain ⟨ad, had, _⟩ := mt_at ((F_oke.out _ (D3.out _ (D4.out _ (D5.out _ (D6.out _ (D7.out _ hS9))))))).mrd hx
      obtain ⟨bd, hbd, _⟩ := chV_at (F_rdcs.out _ hS9) hg
      have Hx9 := Lib.hid hx
      have Hg := Lib.hid hg
      have Hc : Hid (∀ W, S7 W → ∀ i u, x.cells[i]? = some u → W.cell? ((ad.add (k * 8)).add i) = some u) := fun W hW => by
       obtain ⟨ad2, e1, e2⟩ := mt_at ((F_oke.out _ (D3.out _ (D4.out _ (D5.out _ (D6.out _ (D7.out _ hW))))))).mrd Hx9.out
       rw [had] at e1; injection e1 with e1; subst e1; exact e2
      have Hcg : Hid (∀ W, S7 W → ∀ j u, g.cells.toList[j]? = some u → W.cell? ((bd.add (k * 5)).add j) = some u) := fun W hW => by
       obtain ⟨ad2, e1, e2⟩ := chV_at (F_rdcs.out _ hW) Hg.out
       rw [hbd] at e1; injection e1 with e1; subst e1; exact e2
      have CE : Hid (∀ W, S7 W → W.cell? ⟨E, 5, none⟩ = some (.slice (some ad) es.length cape)) := fun W hW => by
       have h := cp_mut (F_E2x.out _ (D3.out _ (D4.out _ (D5.out _ (D6.out _ (D7.out _ hW))))))
       rw [show ((partC c Ae cape es)).mA = some ad from had] at h; exact h
      have ce := CE.out _ hS9
      have hkI : (k : Int) < (es.length : Int) := by omega
      rw [hbd]
      clear hx hg had hbd hdt hd1 hd2
      go_wp2_with fail
      clear ce
      refine region_hold S7 (by kernel_rfl) (by kernel_rfl) (St.drew hS9) ?_
      clear hS9
      iterate 4 (refine hold_value rfl ?_ (fun W hW => ?_) ?_; rotate_left; (focus (go_simp; exact rfl)); simp only [Act.put, List.setIfInBounds_toArray, List.set_cons_zero, List.set_cons_succ])
      (refine hold_load_at rfl 42 _ rfl ((bd.add (k * 5))) rfl g.x.cells.toList _ (fun W hW => ch_dl (Hcg.out W hW)) Tryz.underlying42 rfl (by kernel_rfl) ?_; simp only [Act.put, List.setIfInBounds_toArray, List.set_cons_zero, List.set_cons_succ])
      (refine hold_value rfl ?_ (fun W hW => ?_) ?_; rotate_left; (focus (go_simp; exact rfl)); simp only [Act.put, List.setIfInBounds_toArray, List.set_cons_zero, List.set_cons_succ])
      (refine hold_value rfl ?_ (fun W hW => ?_) ?_; rotate_left; (focus (have c := CE.out W hW; go_simp; exact rfl)); simp only [Act.put, List.setIfInBounds_toArray, List.set_cons_zero, List.set_cons_succ])
      iterate 3 (refine hold_value rfl ?_ (fun W hW => ?_) ?_; rotate_left; (focus (go_simp; exact rfl)); simp only [Act.put, List.setIfInBounds_toArray, List.set_cons_zero, List.set_cons_succ])
      (refine hold_load_at rfl 42 _ rfl ((ad.add (k * 8))) rfl x.dl.cells.toList _ (fun W hW => mt_dlat (Hc.out W hW)) Tryz.underlying42 rfl (by kernel_rfl) ?_; simp only [Act.put, List.setIfInBounds_toArray, List.set_cons_zero, List.set_cons_succ])
      (refine hold_call_new rfl 23 _ (fun W => by (go_simp; try rfl)) (.bool true) (fun W hW => (by have h := dlSame_any g.x x.dl W ((F_dlcs.out _ hW) g (List.mem_of_getElem? Hg.out)) (((F_oke.out _ (D3.out _ (D4.out _ (D5.out _ (D6.out _ (D7.out _ hW))))))).mok x (List.mem_of_getElem? Hx9.out)).dl; rw [show decide (cmpD g.x.d x.dl.d = 0) = true from Hds.out] at h; exact h)) ?_; simp only [Act.put, List.setIfInBounds_toArray, List.set_cons_zero, List.set_cons_succ])
      iterate 2 (refine hold_value rfl ?_ (fun W hW => ?_) ?_; rotate_left; (focus (go_simp; exact rfl)); simp only [Act.put, List.setIfInBounds_toArray, List.set_cons_zero, List.set_cons_succ])
      iterate 4 (refine hold_value rfl ?_ (fun W hW => ?_) ?_; rotate_left; (focus (go_simp; exact rfl)); simp only [Act.put, List.setIfInBounds_toArray, List.set_cons_zero, List.set_cons_succ])
      (refine hold_value rfl ?_ (fun W hW => ?_) ?_; rotate_left; (focus (have c : W.cell? ⟨(bd.add (k * 5)).block, (bd.add (k * 5)).off + 3, none⟩ = some (.int .i64 g.a) := Hcg.out W hW 3 _ rfl; go_simp; exact rfl)); simp only [Act.put, List.setIfInBounds_toArray, List.set_cons_zero, List.set_cons_succ])
      (refine hold_value rfl ?_ (fun W hW => ?_) ?_; rotate_left; (focus (go_simp; exact rfl)); simp only [Act.put, List.setIfInBounds_toArray, List.set_cons_zero, List.set_cons_succ])
      (refine hold_value rfl ?_ (fun W hW => ?_) ?_; rotate_left; (focus (have c := CE.out W hW; go_simp; exact rfl)); simp only [Act.put, List.setIfInBounds_toArray, List.set_cons_zero, List.set_cons_succ])
      iterate 3 (refine hold_value rfl ?_ (fun W hW => ?_) ?_; rotate_left; (focus (go_simp; exact rfl)); simp only [Act.put, List.setIfInBounds_toArray, List.set_cons_zero, List.set_cons_succ])
      (refine hold_value rfl ?_ (fun W hW => ?_) ?_; rotate_left; (focus (have c : W.cell? ⟨(ad.add (k * 8)).block, (ad.add (k * 8)).off + 3, none⟩ = some (.int .i64 x.m.verdict) := Hc.out W hW 3 _ rfl; go_simp; exact rfl)); simp only [Act.put, List.setIfInBounds_toArray, List.set_cons_zero, List.set_cons_succ])
      (refine hold_value rfl (.bool false) (fun W hW => (by first | (go_simp; done) | (go_simp; simp [hq1]))) ?_; simp only [Act.put, List.setIfInBounds_toArray, List.set_cons_zero, List.set_cons_succ])
      iterate 2 (refine hold_value rfl ?_ (fun W hW => ?_) ?_; rotate_left; (focus (go_simp; exact rfl)); simp only [Act.put, List.setIfInBounds_toArray, List.set_cons_zero, List.set_cons_succ])
      iterate 4 (refine hold_value rfl ?_ (fun W hW => ?_) ?_; rotate_left; (focus (go_simp; exact rfl)); simp only [Act.put, List.setIfInBounds_toArray, List.set_cons_zero, List.set_cons_succ])
      (refine hold_value rfl ?_ (fun W hW => ?_) ?_; rotate_left; (focus (have c : W.cell? ⟨(bd.add (k * 5)).block, (bd.add (k * 5)).off + 4, none⟩ = some (.int .i64 (-1)) := (by have h := Hcg.out W hW 4 (.int .i64 g.b) rfl; rw [hd3] at h; exact h); go_simp; exact rfl)); simp only [Act.put, List.setIfInBounds_toArray, List.set_cons_zero, List.set_cons_succ])
      (refine hold_value rfl (.bool false) (fun W hW => (by first | (go_simp; done) | (go_simp; simp))) ?_; simp only [Act.put, List.setIfInBounds_toArray, List.set_cons_zero, List.set_cons_succ])
      (refine hold_value rfl ?_ (fun W hW => ?_) ?_; rotate_left; (focus (go_simp; exact rfl)); simp only [Act.put, List.setIfInBounds_toArray, List.set_cons_zero, List.set_cons_succ])
      refine wpHold_nil fun W9 hS9 => ?_
      clear Hc Hcg Hds hq1 hd3 CE
      go_wp2_with fail
      exact ⟨⟨k + 1, by first | go_num | simp, by omega, hS9⟩, by simp only [intOf]; omega⟩
    obtain rfl : k = es.length := by omega
    have hge2 : ¬ ((es.length : Int) < (es.length : Int)) := by omega
    clear hkn hk
    have HS7 := Lib.hid hS9
    clear hS9
    go_wp2_with fail
    refine region_hold S7 (by kernel_rfl) (by kernel_rfl) (St.drew HS7.out) ?_
    iterate 2 (refine hold_value rfl ?_ (fun W hW => ?_) ?_; rotate_left; (focus (go_simp; exact rfl)); simp only [Act.put, List.setIfInBounds_toArray, List.set_cons_zero, List.set_cons_succ])
    (refine hold_load_row rfl 31 _ rfl (G_7) rfl 31 _ _ (fun W hW => (F_X.out _ (D5.out _ (D6.out _ (D7.out _ hW))))) Tryz.underlying31 rfl (by kernel_rfl) ?_; simp only [Act.put, List.setIfInBounds_toArray, List.set_cons_zero, List.set_cons_succ])
    (refine hold_load_row rfl 31 _ rfl (G_1) rfl 31 _ _ (fun W hW => (F_C2.out _ (D3.out _ (D4.out _ (D5.out _ (D6.out _ (D7.out _ hW))))))) Tryz.underlying31 rfl (by kernel_rfl) ?_; simp only [Act.put, List.setIfInBounds_toArray, List.set_cons_zero, List.set_cons_succ])
    (refine hold_call_new rfl 27 _ (fun W => by (go_simp; try rfl)) (.bool true) (fun W hW => (by have h := cpSame_any cx c W (F_okcx.out _ (D4.out _ (D5.out _ (D6.out _ (D7.out _ hW))))) (F_okc2.out _ (D3.out _ (D4.out _ (D5.out _ (D6.out _ (D7.out _ hW)))))); rw [sameC_iff.2 Hx.out] at h; exact h)) ?_; simp only [Act.put, List.setIfInBounds_toArray, List.set_cons_zero, List.set_cons_succ])
    iterate 2 (refine hold_value rfl ?_ (fun W hW => ?_) ?_; rotate_left; (focus (go_simp; exact rfl)); simp only [Act.put, List.setIfInBounds_toArray, List.set_cons_zero, List.set_cons_succ])
    (refine hold_load_row rfl 31 _ rfl (G_11) rfl 31 _ _ (fun W hW => (F_Y.out _ (D7.out _ hW))) Tryz.underlying31 rfl (by kernel_rfl) ?_; simp only [Act.put, List.setIfInBounds_toArray, List.set_cons_zero, List.set_cons_succ])
    (refine hold_load_row rfl 31 _ rfl (G_1) rfl 31 _ _ (fun W hW => (F_C2.out _ (D3.out _ (D4.out _ (D5.out _ (D6.out _ (D7.out _ hW))))))) Tryz.underlying31 rfl (by kernel_rfl) ?_; simp only [Act.put, List.setIfInBounds_toArray, List.set_cons_zero, List.set_cons_succ])
    (refine hold_call_new rfl 27 _ (fun W => by (go_simp; try rfl)) (.bool true) (fun W hW => (by have h := cpSame_any cy c W (F_okcy.out _ (D6.out _ (D7.out _ hW))) (F_okc2.out _ (D3.out _ (D4.out _ (D5.out _ (D6.out _ (D7.out _ hW)))))); rw [sameC_iff.2 Hy.out] at h; exact h)) ?_; simp only [Act.put, List.setIfInBounds_toArray, List.set_cons_zero, List.set_cons_succ])
    iterate 2 (refine hold_value rfl ?_ (fun W hW => ?_) ?_; rotate_left; (focus (go_simp; exact rfl)); simp only [Act.put, List.setIfInBounds_toArray, List.set_cons_zero, List.set_cons_succ])
    (refine hold_value rfl ?_ (fun W hW => ?_) ?_; rotate_left; (focus (go_simp; exact rfl)); simp only [Act.put, List.setIfInBounds_toArray, List.set_cons_zero, List.set_cons_succ])
    (refine hold_load_at rfl 29 _ rfl (_) rfl [.int .i64 ((partC c Ad capd ds)).sc.alive, .int .i64 ((partC c Ad capd ds)).sc.killed, .int .i64 ((partC c Ad capd ds)).sc.timeout] _ (fun W hW => cp_score (F_D2x.out _ (D3.out _ (D4.out _ (D5.out _ (D6.out _ (D7.out _ hW))))))) Tryz.underlying29 rfl (by kernel_rfl) ?_; simp only [Act.put, List.setIfInBounds_toArray, List.set_cons_zero, List.set_cons_succ])
    (refine hold_value rfl ?_ (fun W hW => ?_) ?_; rotate_left; (focus (go_simp; exact rfl)); simp only [Act.put, List.setIfInBounds_toArray, List.set_cons_zero, List.set_cons_succ])
    (refine hold_load_at rfl 29 _ rfl (_) rfl [.int .i64 ((partC c Ae cape es)).sc.alive, .int .i64 ((partC c Ae cape es)).sc.killed, .int .i64 ((partC c Ae cape es)).sc.timeout] _ (fun W hW => cp_score (F_E2x.out _ (D3.out _ (D4.out _ (D5.out _ (D6.out _ (D7.out _ hW))))))) Tryz.underlying29 rfl (by kernel_rfl) ?_; simp only [Act.put, List.setIfInBounds_toArray, List.set_cons_zero, List.set_cons_succ])
    (refine hold_call_new rfl 28 _ (fun W => by (go_simp; try rfl)) (.agg c.sc.cells) (fun W hW => (by have h := scAdd_any ((partC c Ad capd ds)).sc ((partC c Ae cape es)).sc W (score_small _ (by have := HSd.out.2; have := Hmc.out; rw [List.length_map]; omega)) (score_small _ (by have := HSe.out.2; have := Hmc.out; rw [List.length_map]; omega)); rw [HP2.out.2.2] at h; exact h)) ?_; simp only [Act.put, List.setIfInBounds_toArray, List.set_cons_zero, List.set_cons_succ])
    (refine hold_value rfl ?_ (fun W hW => ?_) ?_; rotate_left; (focus (go_simp; exact rfl)); simp only [Act.put, List.setIfInBounds_toArray, List.set_cons_zero, List.set_cons_succ])
    (refine hold_load_at rfl 29 _ rfl (_) rfl [.int .i64 c.sc.alive, .int .i64 c.sc.killed, .int .i64 c.sc.timeout] _ (fun W hW => cp_score (F_C2.out _ (D3.out _ (D4.out _ (D5.out _ (D6.out _ (D7.out _ hW))))))) Tryz.underlying29 rfl (by kernel_rfl) ?_; simp only [Act.put, List.setIfInBounds_toArray, List.set_cons_zero, List.set_cons_succ])
    refine hold_value rfl (.bool true) (fun W _ => run_exec_binop rfl _ (run_eqGuard_agg _ _ _ _ _ _ _ (by kernel_rfl)) (by exact eql_sc _ _ _ W)) ?_
    simp only [Act.put, List.setIfInBounds_toArray, List.set_cons_zero, List.set_cons_succ]
    iterate 2 (refine hold_value rfl ?_ (fun W hW => ?_) ?_; rotate_left; (focus (go_simp; exact rfl)); simp only [Act.put, List.setIfInBounds_toArray, List.set_cons_zero, List.set_cons_succ])
    refine wpHold_nil fun W9 hW9 => ?_
    clear HS7
    have HS7 : Hid (S7 W9) := hW9
    clear hW9
    go_wp2_with fail
    go_ret
    exact ⟨rfl, (F_low2.out _ (D3.out _ (D4.out _ (D5.out _ (D6.out _ (D7.out _ HS7.out))))))⟩
end Go.Proofs.YtcgglolckkeeiaaGreat
