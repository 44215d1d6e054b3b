/- Lemmas for DirectMutantsP. -/
import Derived.Test.YtdcmppdhdcjpfaaGreatZp1
import Derived.Test.YtdcmppdhdcjpfaaGreatZp20
import Derived.Test.YtdcmppdhdcjpfaaGreatZp34
set_option linter.unusedVariables false
set_option linter.unusedSimpArgs false
set_option maxRecDepth 100000
set_option maxHeartbeats 16000000
namespace Go.Proofs.YtdcmppdhdcjpfaaGreat
open Go.RowKit Go.Deep
theorem XV (p : PgV) (n : Int) (hnI : -9223372036854775808 ≤ n ∧ n ≤ 9223372036854775807) (g : IntsV) (fuel : Int) (hfI : -9223372036854775808 ≤ fuel ∧ fuel ≤ 9223372036854775807) (w : World) (hok : p.ok w) (hg : g.ok w) : Calls Tryz.prog 3 #[p.val, .int .i64 n, g.val, .int .i64 fuel] w fun e w' => e = .returned (.bool true) ∧ Below w.heap.size w w' := by
 obtain ⟨aa, acap, args⟩ := g
 rw [show p.val = .agg p.cells from rfl, show (IntsV.mk aa acap args).val = .slice aa args.length acap from rfl]
 have Hin : Hid (∀ a ∈ args, InI a) := hg.all
 have hrd0 : Rd w aa (Qg args) := hg.reads
 go_enter Tryz.func3, Tryz.ntmps3
 obtain ⟨S0, hSd⟩ : ∃ S : World → Prop, S = (fun W => Below w.heap.size w W ∧ p.ok W ∧ Rd W aa (Qg args)) := ⟨_, rfl⟩
 have st0 : St S0 := by rw [hSd]; infer_instance
 have F_low : Hid (∀ W, S0 W → Below w.heap.size w W) := by show ∀ W, _; rw [hSd]; exact fun W h => h.1
 have F_ok : Hid (∀ W, S0 W → p.ok W) := by show ∀ W, _; rw [hSd]; exact fun W h => h.2.1
 have F_rda : Hid (∀ W, S0 W → Rd W aa (Qg args)) := by show ∀ W, _; rw [hSd]; exact fun W h => h.2.2
 have HS0 : Hid (S0 w) := by show S0 w; rw [hSd]; exact ⟨Below.refl _ _, hok, hrd0⟩
 clear hSd
 clear hok hg hrd0 hnI hfI
 go_wp2_with (refine Qq _ _ rfl ?_)
 refine Stop.to ?_
 refine Qe rfl 25 _ rfl p.cells rfl ?_
 intro G_1 w_2 hG rG bG
 have hprev := st0.go HS0.out (bG.mono hG)
 obtain ⟨S1, hSd⟩ : ∃ S : World → Prop, S = (fun W => S0 W ∧ Row W G_1 25 p.cells) := ⟨_, rfl⟩
 have st1 : St S1 := by rw [hSd]; infer_instance
 have D1 : Hid (∀ W, S1 W → S0 W) := by show ∀ W, _; rw [hSd]; exact fun W h => h.1
 have F_P : Hid (∀ W, S1 W → Row W G_1 25 p.cells) := by show ∀ W, _; rw [hSd]; exact fun W h => h.2
 have HS1 : Hid (S1 w_2) := by show S1 w_2; rw [hSd]; exact ⟨hprev, rG⟩
 clear hSd
 clear hprev HS0 hG rG bG
 go_wp2_with fail
 refine (AaP w_2).mono ?_
 rintro e w_3 ⟨rfl, bb⟩
 have hprev := st1.go HS1.out (bb)
 replace HS1 := Lh hprev
 clear hprev bb
 go_wp2_with (refine wpList_load_row rfl 25 _ rfl G_1 rfl 25 p.cells (0, 0) _ (F_P.out _ HS1.out) Tryz.underlying25 rfl (by kernel_rfl) ?_)
 refine (Acs p aa acap args.length fuel w_3).mono ?_
 rintro e w_4 ⟨rfl, bb⟩
 have hprev := st1.go HS1.out (bb)
 replace HS1 := Lh hprev
 clear hprev bb
 generalize hq : Ex p args.length fuel = q
 have Hq := Lh hq
 clear hq
 cases q
 · skip
   go_wp2_with fail
   go_ret
   exact ⟨rfl, (F_low.out _ (D1.out _ HS1.out))⟩
 have hfz := Aew Hq.out
 have Hbl := Lh hfz.1
 have Hal := Lh hfz.2.1
 have Hfu := Lh hfz.2.2
 clear hfz Hq
 go_wp2_with (refine wpList_load_row rfl 25 _ rfl G_1 rfl 25 p.cells (0, 0) _ (F_P.out _ HS1.out) Tryz.underlying25 rfl (by kernel_rfl) ?_)
 refine (Kc p (by have := Hbl.out; omega) w_4 (F_ok.out _ (D1.out _ HS1.out))).mono ?_
 rintro e w_5 ⟨A, cap, xs, rfl, hrd, -, -, hT, hmap, -, hlen, bb⟩
 have Hmap := Lh hmap
 clear hmap
 have hprev := st1.go HS1.out (bb)
 obtain ⟨S2, hSd⟩ : ∃ S : World → Prop, S = (fun W => S1 W ∧ Rd W A (Xq xs) ∧ ∀ x ∈ xs, DlOk W x) := ⟨_, rfl⟩
 have st2 : St S2 := by rw [hSd]; infer_instance
 have D2 : Hid (∀ W, S2 W → S1 W) := by show ∀ W, _; rw [hSd]; exact fun W h => h.1
 have F_rdl : Hid (∀ W, S2 W → Rd W A (Xq xs)) := by show ∀ W, _; rw [hSd]; exact fun W h => h.2.1
 have F_dll : Hid (∀ W, S2 W → ∀ x ∈ xs, DlOk W x) := by show ∀ W, _; rw [hSd]; exact fun W h => h.2.2
 have HS2 : Hid (S2 w_5) := by show S2 w_5; rw [hSd]; exact ⟨hprev, hrd, (fun x hx => (hT x hx).ok)⟩
 clear hSd
 clear hprev HS1 bb hrd hT
 obtain ⟨cp, hcp⟩ : ∃ c, c = Zn p := ⟨_, rfl⟩
 rw [← hcp]
 by_cases h0 : cp = 0
 rotate_left
 · have h1 : (cp != 0) = true := by simpa using h0
   clear hcp h0
   go_wp2_with fail
   go_ret
   exact ⟨rfl, (F_low.out _ (D1.out _ (D2.out _ HS2.out)))⟩
 subst h0
 obtain ⟨t, ht⟩ := checkP_ok.1 hcp.symm
 have Ht := Lh ht
 clear hcp ht
 by_cases h1 : n < 0
 · skip
   go_wp2_with fail
   go_ret
   exact ⟨rfl, (F_low.out _ (D1.out _ (D2.out _ HS2.out)))⟩
 skip
 by_cases h2 : n ≥ (xs.length : Int)
 · skip
   go_wp2_with fail
   go_ret
   exact ⟨rfl, (F_low.out _ (D1.out _ (D2.out _ HS2.out)))⟩
 obtain ⟨k, rfl⟩ : ∃ k : Nat, n = (k : Int) := ⟨n.toNat, by omega⟩
 have hkl : k < xs.length := by omega
 obtain ⟨x, hx⟩ : ∃ x, xs[k]? = some x := ⟨_, List.getElem?_eq_getElem hkl⟩
 have Hxm := Lh (List.mem_of_getElem? hx)
 have Hd : Hid (x.d ∈ Ji p.body t) := by show _ ∈ _; rw [← Hmap.out t Ht.out]; exact List.mem_map.2 ⟨x, Hxm.out, rfl⟩
 have Hc0 := Lh (AdI Ht.out Hd.out)
 obtain ⟨ad, hA, hcx⟩ := Acg (c := fun x : DlV => x.cells.toList) (sz := 3) (fun _ => rfl) (by decide) (F_rdl.out _ HS2.out) hx
 subst hA
 have hcx2 : ∀ j u, x.cells.toList[j]? = some u → (w_5).cell? ((ad.add (k * 3)).add j) = some u := hcx
 have Hcx := Lh hcx2
 have Hx := Lh hx
 clear hx hcx hcx2 Hcx
 have hAx : Hid (∀ W, Rd W (some ad) (Xq xs) → ∀ j u, x.cells.toList[j]? = some u → W.cell? ((ad.add (k * 3)).add j) = some u) := fun W h => by
  obtain ⟨ad2, e, h2⟩ := Acg (c := fun x : DlV => x.cells.toList) (sz := 3) (fun _ => rfl) (by decide) h Hx.out
  injection e with e; rw [e]; exact h2
 have h0k : (0 : Int) ≤ (k : Int) := by omega
 have hkI : (k : Int) < (xs.length : Int) := by omega
 go_wp2_with fail
 obtain ⟨V5_0, hV0⟩ : ∃ V, V = (w_5).drew := ⟨_, rfl⟩
 have hS0 : S2 V5_0 := by rw [hV0]; exact St.drew HS2.out
 refine wp_region_held (S := fun W => Below V5_0.heap.size V5_0 W) (by kernel_rfl) ?_
 simp only [List.size_toArray, List.length_cons, List.length_nil, Nat.reduceAdd, Array.replicate_succ, Array.replicate_zero, List.push_toArray, List.nil_append, List.cons_append]
 show wpAnyH _ _ _ _ _ _ _ _ (w_5).drew
 rw [← hV0]
 obtain ⟨T5, hTd⟩ : ∃ T : World → Prop, T = (fun W => Below V5_0.heap.size V5_0 W) := ⟨_, rfl⟩
 rw [← hTd]
 have t0 : Hid (∀ W, T5 W → S2 W) := by show ∀ W, _; rw [hTd]; exact fun W h => st2.go hS0 h
 have tsz : Hid (∀ W, T5 W → V5_0.heap.size ≤ W.heap.size) := by show ∀ W, _; rw [hTd]; exact fun W h => h.size
 have tB : Hid (∀ W W', T5 W → Below V5_0.heap.size W W' → T5 W') := by show ∀ W W', _; rw [hTd]; exact fun W W' h b => h.trans b
 have hV5_0 : T5 V5_0 := by rw [hTd]; exact Below.refl _ _
 clear hTd hV0 hS0 HS2
 (refine tkH 0 _ rfl ((Xc rfl 25 _ rfl G_1 rfl 25 p.cells _ (fun W hW => (F_P.out _ (D2.out _ (t0.out _ hW)))) Tryz.underlying25 rfl (by kernel_rfl))) ?_; simp only [Act.put, Qa, Qb, Qc])
 (refine tkH 1 (.slice (some ad) xs.length cap) rfl (Qd rfl (fun W hW => by (go_simp))) ?_; simp only [Act.put, Qa, Qb, Qc])
 (refine tkH 2 (.int .i64 (k : Int)) rfl (Qd rfl (fun W hW => by (go_simp))) ?_; simp only [Act.put, Qa, Qb, Qc])
 (refine tkH 3 (.pointer (some (ad.add (k * 3)))) rfl (Qd rfl (fun W hW => by (go_simp))) ?_; simp only [Act.put, Qa, Qb, Qc])
 (refine tkH 4 _ rfl ((AbD rfl 35 _ rfl (ad.add (k * 3)) rfl x.cells.toList _ (fun W hW => hAx.out W (F_rdl.out _ (t0.out _ hW))) Tryz.underlying35 rfl (by kernel_rfl))) ?_; simp only [Act.put, Qa, Qb, Qc])
 refine wpAnyH_all (rs := [5, 9]) (by kernel_rfl) (by simp) (fun i hi => ?_)
 simp only [List.mem_cons, List.not_mem_nil, or_false] at hi
 rcases hi with rfl | rfl
 · skip
   refine Qf rfl rfl (fun K2 hK2 => ?_)
   refine QB 18 #[.agg p.cells, .agg x.cells] (w1 := V5_0) (by go_simp) ((U4 p x V5_0 (F_ok.out _ (D1.out _ (D2.out _ (t0.out _ hV5_0)))) ((F_dll.out _ (t0.out _ hV5_0)) x Hxm.out) (by have := Hbl.out; omega)).mono ?_)
   rintro e V5_1 ⟨m, rfl, hm, -, bb⟩
   refine ⟨_, rfl, ?_⟩
   refine hK2 _ _ ?_
   clear hK2 K2
   simp only [Act.put, Qa, Qb, Qc]
   obtain ⟨hm1, okm, hm3, hm4⟩ := hm Hc0.out
   have Hm := Lh hm1
   have Hml := Lh hm3
   rw [Hc0.out]
   have hV5_1 : T5 V5_1 := tB.out _ _ hV5_0 (bb.mono (tsz.out _ hV5_0))
   clear bb hV5_0 hm hm1 hm3
   refine ⟨hV5_1, ?_⟩
   (refine tkH 6 (.tuple #[.agg m.cells, .int .i64 0]) rfl (Qd rfl (fun W hW => by (go_simp))) ?_; simp only [Act.put, Qa, Qb, Qc])
   (refine tkH 7 (.agg m.cells) rfl (Qd rfl (fun W hW => by (go_simp))) ?_; simp only [Act.put, Qa, Qb, Qc])
   (refine tkH 8 (.int .i64 0) rfl (Qd rfl (fun W hW => by (go_simp))) ?_; simp only [Act.put, Qa, Qb, Qc])
   (refine wpAnyH_all (rs := [9]) (by kernel_rfl) (by simp) (fun i hi => ?_); obtain rfl : i = 9 := by simpa using hi)
   refine Qf rfl rfl (fun K2 hK2 => ?_)
   refine ZU 25 rfl _ _ KR rfl ?_
   intro C V5_2 hC rC bC
   refine hK2 _ _ ?_
   clear hK2 K2
   simp only [Act.put, Qa, Qb, Qc]
   have hCl : V5_0.heap.size ≤ C := Nat.le_trans (tsz.out _ hV5_1) hC
   have hne_okm := (show (Qg m.V ≠ [] → ∀ ad, m.va = some ad → ¬ ad.block = C) ∧ (m.body.flatMap Nd.cells ≠ [] → ∀ ad, m.ba = some ad → ¬ ad.block = C) from ⟨fun hne a e h => by have := Xf okm.vrd hne e; omega, fun hne a e h => by have := Xf okm.brd hne e; omega⟩)
   replace okm := okm.go (bC.mono hC)
   have hV5_2 : T5 V5_2 := tB.out _ _ hV5_1 ((bC.mono hC).mono (tsz.out _ hV5_1))
   clear bC hC hV5_1
   refine ⟨hV5_2, ?_⟩
   (refine wpAnyH_all (rs := [10]) (by kernel_rfl) (by simp) (fun i hi => ?_); obtain rfl : i = 10 := by simpa using hi)
   refine Qf rfl rfl (fun K2 hK2 => ?_)
   refine ZI 25 _ _ rfl C m.cells rfl rfl 25 _ rC (by kernel_rfl) rfl (by simp [PgV.cells, Value.oneCell']) ?_
   intro V5_9 r9 o9
   refine hK2 _ _ ?_
   clear hK2 K2
   simp only [Act.put, Qa, Qb, Qc]
   have h9 : T5 V5_9 := tB.out _ _ hV5_2 (o9.below hCl)
   have hprev := t0.out _ h9
   have k_okm := okm.kx hne_okm.1 hne_okm.2 (KpX.only (X := fun k => k = C) o9 rfl)
   clear rC o9 hV5_2 okm
   refine ⟨h9, ?_⟩
   (refine tkH 11 (.int .i64 0) rfl (Qd rfl (fun W hW => by (go_simp))) ?_; simp only [Act.put, Qa, Qb, Qc])
   refine wpAnyH_done (by kernel_rfl) ?_ _
   clear h9 t0 tsz tB hCl T5
   obtain ⟨S3, hSd⟩ : ∃ S : World → Prop, S = (fun W => S2 W ∧ Row W C 25 m.cells ∧ m.ok W) := ⟨_, rfl⟩
   have st3 : St S3 := by rw [hSd]; infer_instance
   have D3 : Hid (∀ W, S3 W → S2 W) := by show ∀ W, _; rw [hSd]; exact fun W h => h.1
   have F_Q : Hid (∀ W, S3 W → Row W C 25 m.cells) := by show ∀ W, _; rw [hSd]; exact fun W h => h.2.1
   have F_okm : Hid (∀ W, S3 W → m.ok W) := by show ∀ W, _; rw [hSd]; exact fun W h => h.2.2
   have HS3 : Hid (S3 V5_9) := by show S3 V5_9; rw [hSd]; exact ⟨hprev, r9, k_okm⟩
   clear hSd
   clear hprev r9 k_okm
   obtain ⟨cz, hcz⟩ : ∃ c, c = QW p args.length fuel := ⟨_, rfl⟩
   have Hcp : Hid (QW p args.length fuel = cz) := hcz.symm
   have Hcm : Hid (QW m args.length fuel = cz) := by
    obtain ⟨t', ht'⟩ := AaY Hm.out Hc0.out
    show _ = _
    rw [hcz, Z7 ht', Z7 Ht.out.good, Hm.out.par]
   clear hcz
   go_wp2_with (refine wpList_load_row rfl 25 _ rfl C rfl 25 m.cells (0, 0) _ (F_Q.out _ HS3.out) Tryz.underlying25 rfl (by kernel_rfl) ?_)
   go_wp2_with (refine wpList_load_row rfl 25 _ rfl G_1 rfl 25 p.cells (0, 0) _ (F_P.out _ (D2.out _ (D3.out _ HS3.out))) Tryz.underlying25 rfl (by kernel_rfl) ?_)
   refine (VH m aa acap args fuel V5_9 (by have := Hbl.out; have := Hml.out; omega) (by have := Hal.out; omega) (F_okm.out _ HS3.out) (F_rda.out _ (D1.out _ (D2.out _ (D3.out _ HS3.out)))) Hin.out).mono ?_
   rintro e w_7 ⟨A_a, c_a, rfl, hrd, hle_a, hmx_a, hni_a, bb⟩
   have hprev := st3.go HS3.out (bb)
   obtain ⟨S4, hSd⟩ : ∃ S : World → Prop, S = (fun W => S3 W ∧ Rd3 ((ZB m args fuel).rv A_a c_a) W) := ⟨_, rfl⟩
   have st4 : St S4 := by rw [hSd]; infer_instance
   have D4 : Hid (∀ W, S4 W → S3 W) := by show ∀ W, _; rw [hSd]; exact fun W h => h.1
   have F_rd_a : Hid (∀ W, S4 W → Rd3 ((ZB m args fuel).rv A_a c_a) W) := by show ∀ W, _; rw [hSd]; exact fun W h => h.2
   have HS4 : Hid (S4 w_7) := by show S4 w_7; rw [hSd]; exact ⟨hprev, hrd⟩
   clear hSd
   clear hprev HS3 bb hrd
   go_wp2_with (refine Qy _ rfl ?_)
   refine Stop.to ?_
   refine Qi rfl 40 rfl _ _ ZE rfl ?_
   intro G_8 w_9 hG rG bG
   go_wp2_with (refine Ql _ _ _ rfl ?_)
   refine Stop.to ?_
   refine Qj rfl 40 _ _ rfl G_8 ((ZB m args fuel).rv A_a c_a).cells rfl rfl 40 _ rG (by kernel_rfl) rfl (Ev _) ?_
   intro w_10 rH oH
   have bH : Below (w_7).heap.size w_7 w_10 := (bG.mono hG).trans (oH.below hG)
   have hprev := st4.go HS4.out (bH)
   obtain ⟨S5, hSd⟩ : ∃ S : World → Prop, S = (fun W => S4 W ∧ Row W G_8 40 ((ZB m args fuel).rv A_a c_a).cells) := ⟨_, rfl⟩
   have st5 : St S5 := by rw [hSd]; infer_instance
   have D5 : Hid (∀ W, S5 W → S4 W) := by show ∀ W, _; rw [hSd]; exact fun W h => h.1
   have F_a : Hid (∀ W, S5 W → Row W G_8 40 ((ZB m args fuel).rv A_a c_a).cells) := by show ∀ W, _; rw [hSd]; exact fun W h => h.2
   have HS5 : Hid (S5 w_10) := by show S5 w_10; rw [hSd]; exact ⟨hprev, rH⟩
   clear hSd
   clear hprev HS4 hG rG bG rH oH bH
   rw [Hcm.out]
   go_wp2_with (refine wpList_load_row rfl 25 _ rfl C rfl 25 m.cells (0, 0) _ (F_Q.out _ (D4.out _ (D5.out _ HS5.out))) Tryz.underlying25 rfl (by kernel_rfl) ?_)
   refine (Afo m aa acap args fuel w_10 (by have := Hbl.out; have := Hml.out; omega) (by have := Hal.out; omega) (F_okm.out _ (D4.out _ (D5.out _ HS5.out))) (F_rda.out _ (D1.out _ (D2.out _ (D3.out _ (D4.out _ (D5.out _ HS5.out)))))) Hin.out).mono ?_
   rintro e w_11 ⟨A_b, c_b, rfl, hrd, hle_b, hmx_b, hni_b, bb⟩
   have hprev := st5.go HS5.out (bb)
   obtain ⟨S6, hSd⟩ : ∃ S : World → Prop, S = (fun W => S5 W ∧ Rd3 ((ZB m args fuel).rv A_b c_b) W) := ⟨_, rfl⟩
   have st6 : St S6 := by rw [hSd]; infer_instance
   have D6 : Hid (∀ W, S6 W → S5 W) := by show ∀ W, _; rw [hSd]; exact fun W h => h.1
   have F_rd_b : Hid (∀ W, S6 W → Rd3 ((ZB m args fuel).rv A_b c_b) W) := by show ∀ W, _; rw [hSd]; exact fun W h => h.2
   have HS6 : Hid (S6 w_11) := by show S6 w_11; rw [hSd]; exact ⟨hprev, hrd⟩
   clear hSd
   clear hprev HS5 bb hrd
   go_wp2_with (refine Qy _ rfl ?_)
   refine Stop.to ?_
   refine Qi rfl 40 rfl _ _ ZE rfl ?_
   intro G_12 w_13 hG rG bG
   go_wp2_with (refine Ql _ _ _ rfl ?_)
   refine Stop.to ?_
   refine Qj rfl 40 _ _ rfl G_12 ((ZB m args fuel).rv A_b c_b).cells rfl rfl 40 _ rG (by kernel_rfl) rfl (Ev _) ?_
   intro w_14 rH oH
   have bH : Below (w_11).heap.size w_11 w_14 := (bG.mono hG).trans (oH.below hG)
   have hprev := st6.go HS6.out (bH)
   obtain ⟨S7, hSd⟩ : ∃ S : World → Prop, S = (fun W => S6 W ∧ Row W G_12 40 ((ZB m args fuel).rv A_b c_b).cells) := ⟨_, rfl⟩
   have st7 : St S7 := by rw [hSd]; infer_instance
   have D7 : Hid (∀ W, S7 W → S6 W) := by show ∀ W, _; rw [hSd]; exact fun W h => h.1
   have F_b : Hid (∀ W, S7 W → Row W G_12 40 ((ZB m args fuel).rv A_b c_b).cells) := by show ∀ W, _; rw [hSd]; exact fun W h => h.2
   have HS7 : Hid (S7 w_14) := by show S7 w_14; rw [hSd]; exact ⟨hprev, rH⟩
   clear hSd
   clear hprev HS6 hG rG bG rH oH bH
   rw [Hcm.out]
   go_wp2_with (first | (refine wpList_load_row rfl 40 _ rfl G_8 rfl 40 ((ZB m args fuel).rv A_a c_a).cells (0, 0) _ (F_a.out _ (D6.out _ (D7.out _ HS7.out))) Tryz.underlying40 rfl (by kernel_rfl) ?_) | (refine wpList_load_row rfl 40 _ rfl G_12 rfl 40 ((ZB m args fuel).rv A_b c_b).cells (0, 0) _ (F_b.out _ HS7.out) Tryz.underlying40 rfl (by kernel_rfl) ?_))
   refine (YV ((ZB m args fuel).rv A_a c_a) ((ZB m args fuel).rv A_b c_b) w_14 (F_rd_a.out _ (D5.out _ (D6.out _ (D7.out _ HS7.out)))) (F_rd_b.out _ (D7.out _ HS7.out)) (Ack _ _ _)).mono ?_
   rintro e w_15 ⟨β, hβ, rfl, bb⟩
   obtain rfl : β = true := hβ.2 rfl
   rw [Aaf]
   have hprev := st7.go HS7.out (bb)
   replace HS7 := Lh hprev
   clear hprev bb hβ
   go_wp2_with (first | (refine ZA rfl 25 _ rfl G_1 rfl 25 p.cells (0, 0) _ (F_P.out _ (D2.out _ (D3.out _ (D4.out _ (D5.out _ (D6.out _ (D7.out _ HS7.out))))))) Tryz.underlying25 rfl (by kernel_rfl) ?_) | (refine wpList_load_row rfl 25 _ rfl G_1 rfl 25 p.cells (0, 0) _ (F_P.out _ (D2.out _ (D3.out _ (D4.out _ (D5.out _ (D6.out _ (D7.out _ HS7.out))))))) Tryz.underlying25 rfl (by kernel_rfl) ?_))
   refine (JS p aa acap args.length fuel (by have := Hbl.out; omega) (by have := Hal.out; omega) w_15 (F_ok.out _ (D1.out _ (D2.out _ (D3.out _ (D4.out _ (D5.out _ (D6.out _ (D7.out _ HS7.out))))))))).mono ?_
   rintro e w_16 ⟨rfl, bb⟩
   rw [Hcp.out]
   have hprev := st7.go HS7.out (bb)
   replace HS7 := Lh hprev
   clear hprev bb
   go_wp2_with fail
   go_ret
   exact ⟨rfl, (F_low.out _ (D1.out _ (D2.out _ (D3.out _ (D4.out _ (D5.out _ (D6.out _ (D7.out _ HS7.out))))))))⟩
 · skip
   refine Qf rfl rfl (fun K2 hK2 => ?_)
   refine ZU 25 rfl _ _ KR rfl ?_
   intro C V5_1 hC rC bC
   refine hK2 _ _ ?_
   clear hK2 K2
   simp only [Act.put, Qa, Qb, Qc]
   have hCl : V5_0.heap.size ≤ C := Nat.le_trans (tsz.out _ hV5_0) hC
   have hV5_1 : T5 V5_1 := tB.out _ _ hV5_0 ((bC.mono hC).mono (tsz.out _ hV5_0))
   clear bC hC hV5_0
   refine ⟨hV5_1, ?_⟩
   have hCw := rC.lt
   (refine wpAnyH_all (rs := [5]) (by kernel_rfl) (by simp) (fun i hi => ?_); obtain rfl : i = 5 := by simpa using hi)
   refine Qf rfl rfl (fun K2 hK2 => ?_)
   refine QB 18 #[.agg p.cells, .agg x.cells] (w1 := V5_1) (by go_simp) ((U4 p x V5_1 (F_ok.out _ (D1.out _ (D2.out _ (t0.out _ hV5_1)))) ((F_dll.out _ (t0.out _ hV5_1)) x Hxm.out) (by have := Hbl.out; omega)).mono ?_)
   rintro e V5_2 ⟨m, rfl, hm, -, bb⟩
   refine ⟨_, rfl, ?_⟩
   refine hK2 _ _ ?_
   clear hK2 K2
   simp only [Act.put, Qa, Qb, Qc]
   obtain ⟨hm1, okm, hm3, hm4⟩ := hm Hc0.out
   have Hm := Lh hm1
   have Hml := Lh hm3
   rw [Hc0.out]
   replace rC := rC.below bb rC.lt
   have hV5_2 : T5 V5_2 := tB.out _ _ hV5_1 (bb.mono (tsz.out _ hV5_1))
   clear bb hV5_1 hm hm1 hm3
   refine ⟨hV5_2, ?_⟩
   (refine tkH 6 (.tuple #[.agg m.cells, .int .i64 0]) rfl (Qd rfl (fun W hW => by (go_simp))) ?_; simp only [Act.put, Qa, Qb, Qc])
   (refine tkH 7 (.agg m.cells) rfl (Qd rfl (fun W hW => by (go_simp))) ?_; simp only [Act.put, Qa, Qb, Qc])
   (refine tkH 8 (.int .i64 0) rfl (Qd rfl (fun W hW => by (go_simp))) ?_; simp only [Act.put, Qa, Qb, Qc])
   have hne_okm := (show (Qg m.V ≠ [] → ∀ ad, m.va = some ad → ¬ ad.block = C) ∧ (m.body.flatMap Nd.cells ≠ [] → ∀ ad, m.ba = some ad → ¬ ad.block = C) from ⟨fun _ a e h => by have := hm4 a (.inl e); omega, fun _ a e h => by have := hm4 a (.inr e); omega⟩)
   (refine wpAnyH_all (rs := [10]) (by kernel_rfl) (by simp) (fun i hi => ?_); obtain rfl : i = 10 := by simpa using hi)
   refine Qf rfl rfl (fun K2 hK2 => ?_)
   refine ZI 25 _ _ rfl C m.cells rfl rfl 25 _ rC (by kernel_rfl) rfl (by simp [PgV.cells, Value.oneCell']) ?_
   intro V5_9 r9 o9
   refine hK2 _ _ ?_
   clear hK2 K2
   simp only [Act.put, Qa, Qb, Qc]
   have h9 : T5 V5_9 := tB.out _ _ hV5_2 (o9.below hCl)
   have hprev := t0.out _ h9
   have k_okm := okm.kx hne_okm.1 hne_okm.2 (KpX.only (X := fun k => k = C) o9 rfl)
   clear rC o9 hV5_2 okm
   refine ⟨h9, ?_⟩
   (refine tkH 11 (.int .i64 0) rfl (Qd rfl (fun W hW => by (go_simp))) ?_; simp only [Act.put, Qa, Qb, Qc])
   refine wpAnyH_done (by kernel_rfl) ?_ _
   clear h9 t0 tsz tB hCl T5
   obtain ⟨S3, hSd⟩ : ∃ S : World → Prop, S = (fun W => S2 W ∧ Row W C 25 m.cells ∧ m.ok W) := ⟨_, rfl⟩
   have st3 : St S3 := by rw [hSd]; infer_instance
   have D3 : Hid (∀ W, S3 W → S2 W) := by show ∀ W, _; rw [hSd]; exact fun W h => h.1
   have F_Q : Hid (∀ W, S3 W → Row W C 25 m.cells) := by show ∀ W, _; rw [hSd]; exact fun W h => h.2.1
   have F_okm : Hid (∀ W, S3 W → m.ok W) := by show ∀ W, _; rw [hSd]; exact fun W h => h.2.2
   have HS3 : Hid (S3 V5_9) := by show S3 V5_9; rw [hSd]; exact ⟨hprev, r9, k_okm⟩
   clear hSd
   clear hprev r9 k_okm
   obtain ⟨cz, hcz⟩ : ∃ c, c = QW p args.length fuel := ⟨_, rfl⟩
   have Hcp : Hid (QW p args.length fuel = cz) := hcz.symm
   have Hcm : Hid (QW m args.length fuel = cz) := by
    obtain ⟨t', ht'⟩ := AaY Hm.out Hc0.out
    show _ = _
    rw [hcz, Z7 ht', Z7 Ht.out.good, Hm.out.par]
   clear hcz
   go_wp2_with (refine wpList_load_row rfl 25 _ rfl C rfl 25 m.cells (0, 0) _ (F_Q.out _ HS3.out) Tryz.underlying25 rfl (by kernel_rfl) ?_)
   go_wp2_with (refine wpList_load_row rfl 25 _ rfl G_1 rfl 25 p.cells (0, 0) _ (F_P.out _ (D2.out _ (D3.out _ HS3.out))) Tryz.underlying25 rfl (by kernel_rfl) ?_)
   refine (VH m aa acap args fuel V5_9 (by have := Hbl.out; have := Hml.out; omega) (by have := Hal.out; omega) (F_okm.out _ HS3.out) (F_rda.out _ (D1.out _ (D2.out _ (D3.out _ HS3.out)))) Hin.out).mono ?_
   rintro e w_17 ⟨A_a, c_a, rfl, hrd, hle_a, hmx_a, hni_a, bb⟩
   have hprev := st3.go HS3.out (bb)
   obtain ⟨S4, hSd⟩ : ∃ S : World → Prop, S = (fun W => S3 W ∧ Rd3 ((ZB m args fuel).rv A_a c_a) W) := ⟨_, rfl⟩
   have st4 : St S4 := by rw [hSd]; infer_instance
   have D4 : Hid (∀ W, S4 W → S3 W) := by show ∀ W, _; rw [hSd]; exact fun W h => h.1
   have F_rd_a : Hid (∀ W, S4 W → Rd3 ((ZB m args fuel).rv A_a c_a) W) := by show ∀ W, _; rw [hSd]; exact fun W h => h.2
   have HS4 : Hid (S4 w_17) := by show S4 w_17; rw [hSd]; exact ⟨hprev, hrd⟩
   clear hSd
   clear hprev HS3 bb hrd
   go_wp2_with (refine Qy _ rfl ?_)
   refine Stop.to ?_
   refine Qi rfl 40 rfl _ _ ZE rfl ?_
   intro G_18 w_19 hG rG bG
   go_wp2_with (refine Ql _ _ _ rfl ?_)
   refine Stop.to ?_
   refine Qj rfl 40 _ _ rfl G_18 ((ZB m args fuel).rv A_a c_a).cells rfl rfl 40 _ rG (by kernel_rfl) rfl (Ev _) ?_
   intro w_20 rH oH
   have bH : Below (w_17).heap.size w_17 w_20 := (bG.mono hG).trans (oH.below hG)
   have hprev := st4.go HS4.out (bH)
   obtain ⟨S5, hSd⟩ : ∃ S : World → Prop, S = (fun W => S4 W ∧ Row W G_18 40 ((ZB m args fuel).rv A_a c_a).cells) := ⟨_, rfl⟩
   have st5 : St S5 := by rw [hSd]; infer_instance
   have D5 : Hid (∀ W, S5 W → S4 W) := by show ∀ W, _; rw [hSd]; exact fun W h => h.1
   have F_a : Hid (∀ W, S5 W → Row W G_18 40 ((ZB m args fuel).rv A_a c_a).cells) := by show ∀ W, _; rw [hSd]; exact fun W h => h.2
   have HS5 : Hid (S5 w_20) := by show S5 w_20; rw [hSd]; exact ⟨hprev, rH⟩
   clear hSd
   clear hprev HS4 hG rG bG rH oH bH
   rw [Hcm.out]
   go_wp2_with (refine wpList_load_row rfl 25 _ rfl C rfl 25 m.cells (0, 0) _ (F_Q.out _ (D4.out _ (D5.out _ HS5.out))) Tryz.underlying25 rfl (by kernel_rfl) ?_)
   refine (Afo m aa acap args fuel w_20 (by have := Hbl.out; have := Hml.out; omega) (by have := Hal.out; omega) (F_okm.out _ (D4.out _ (D5.out _ HS5.out))) (F_rda.out _ (D1.out _ (D2.out _ (D3.out _ (D4.out _ (D5.out _ HS5.out)))))) Hin.out).mono ?_
   rintro e w_21 ⟨A_b, c_b, rfl, hrd, hle_b, hmx_b, hni_b, bb⟩
   have hprev := st5.go HS5.out (bb)
   obtain ⟨S6, hSd⟩ : ∃ S : World → Prop, S = (fun W => S5 W ∧ Rd3 ((ZB m args fuel).rv A_b c_b) W) := ⟨_, rfl⟩
   have st6 : St S6 := by rw [hSd]; infer_instance
   have D6 : Hid (∀ W, S6 W → S5 W) := by show ∀ W, _; rw [hSd]; exact fun W h => h.1
   have F_rd_b : Hid (∀ W, S6 W → Rd3 ((ZB m args fuel).rv A_b c_b) W) := by show ∀ W, _; rw [hSd]; exact fun W h => h.2
   have HS6 : Hid (S6 w_21) := by show S6 w_21; rw [hSd]; exact ⟨hprev, hrd⟩
   clear hSd
   clear hprev HS5 bb hrd
   go_wp2_with (refine Qy _ rfl ?_)
   refine Stop.to ?_
   refine Qi rfl 40 rfl _ _ ZE rfl ?_
   intro G_22 w_23 hG rG bG
   go_wp2_with (refine Ql _ _ _ rfl ?_)
   refine Stop.to ?_
   refine Qj rfl 40 _ _ rfl G_22 ((ZB m args fuel).rv A_b c_b).cells rfl rfl 40 _ rG (by kernel_rfl) rfl (Ev _) ?_
   intro w_24 rH oH
   have bH : Below (w_21).heap.size w_21 w_24 := (bG.mono hG).trans (oH.below hG)
   have hprev := st6.go HS6.out (bH)
   obtain ⟨S7, hSd⟩ : ∃ S : World → Prop, S = (fun W => S6 W ∧ Row W G_22 40 ((ZB m args fuel).rv A_b c_b).cells) := ⟨_, rfl⟩
   have st7 : St S7 := by rw [hSd]; infer_instance
   have D7 : Hid (∀ W, S7 W → S6 W) := by show ∀ W, _; rw [hSd]; exact fun W h => h.1
   have F_b : Hid (∀ W, S7 W → Row W G_22 40 ((ZB m args fuel).rv A_b c_b).cells) := by show ∀ W, _; rw [hSd]; exact fun W h => h.2
   have HS7 : Hid (S7 w_24) := by show S7 w_24; rw [hSd]; exact ⟨hprev, rH⟩
   clear hSd
   clear hprev HS6 hG rG bG rH oH bH
   rw [Hcm.out]
   go_wp2_with (first | (refine wpList_load_row rfl 40 _ rfl G_18 rfl 40 ((ZB m args fuel).rv A_a c_a).cells (0, 0) _ (F_a.out _ (D6.out _ (D7.out _ HS7.out))) Tryz.underlying40 rfl (by kernel_rfl) ?_) | (refine wpList_load_row rfl 40 _ rfl G_22 rfl 40 ((ZB m args fuel).rv A_b c_b).cells (0, 0) _ (F_b.out _ HS7.out) Tryz.underlying40 rfl (by kernel_rfl) ?_))
   refine (YV ((ZB m args fuel).rv A_a c_a) ((ZB m args fuel).rv A_b c_b) w_24 (F_rd_a.out _ (D5.out _ (D6.out _ (D7.out _ HS7.out)))) (F_rd_b.out _ (D7.out _ HS7.out)) (Ack _ _ _)).mono ?_
   rintro e w_25 ⟨β, hβ, rfl, bb⟩
   obtain rfl : β = true := hβ.2 rfl
   rw [Aaf]
   have hprev := st7.go HS7.out (bb)
   replace HS7 := Lh hprev
   clear hprev bb hβ
   go_wp2_with (first | (refine ZA rfl 25 _ rfl G_1 rfl 25 p.cells (0, 0) _ (F_P.out _ (D2.out _ (D3.out _ (D4.out _ (D5.out _ (D6.out _ (D7.out _ HS7.out))))))) Tryz.underlying25 rfl (by kernel_rfl) ?_) | (refine wpList_load_row rfl 25 _ rfl G_1 rfl 25 p.cells (0, 0) _ (F_P.out _ (D2.out _ (D3.out _ (D4.out _ (D5.out _ (D6.out _ (D7.out _ HS7.out))))))) Tryz.underlying25 rfl (by kernel_rfl) ?_))
   refine (JS p aa acap args.length fuel (by have := Hbl.out; omega) (by have := Hal.out; omega) w_25 (F_ok.out _ (D1.out _ (D2.out _ (D3.out _ (D4.out _ (D5.out _ (D6.out _ (D7.out _ HS7.out))))))))).mono ?_
   rintro e w_26 ⟨rfl, bb⟩
   rw [Hcp.out]
   have hprev := st7.go HS7.out (bb)
   replace HS7 := Lh hprev
   clear hprev bb
   go_wp2_with fail
   go_ret
   exact ⟨rfl, (F_low.out _ (D1.out _ (D2.out _ (D3.out _ (D4.out _ (D5.out _ (D6.out _ (D7.out _ HS7.out))))))))⟩
end Go.Proofs.YtdcmppdhdcjpfaaGreat
