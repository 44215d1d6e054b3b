/- The walk over the law MachineOuts. Conditions: stated in the theorem. -/
import Derived.Test.YtlglilmgklipdaaWk16
import Derived.Test.YtlglilmgklipdaaOpP
import Derived.Test.YtlglilmgklipdaaMlC
namespace Go.Proofs.Ytlglilmgklipdaa
set_option linter.unusedVariables false
open Go.RowKit Go.Deep

set_option maxRecDepth 100000 in
set_option maxHeartbeats 16000000 in
theorem machineOuts_walk (p : PgV) (g : IntsV) (fuel : Int) (hfI : -9223372036854775808 ≤ fuel ∧ fuel ≤ 9223372036854775807) (n : Int) (hmI : -9223372036854775808 ≤ n ∧ n ≤ 9223372036854775807) (w : World) (hok : p.ok w) (hg : g.ok w) : Calls Try.prog 6 #[p.val, g.val, .int .i64 fuel, .int .i64 n] w fun e w' => e = .returned (.bool true) ∧ Below w.heap.size w w' := by
  obtain ⟨aa, acap, args⟩ := g
  rw [show p.val = .agg p.cells from rfl, show (IntsV.mk aa acap args).val = .slice aa args.length acap from rfl]
  have Hin : Hid (∀ a ∈ args, InI a) := hg.all
  have hrd0 : Rd w aa (ints args) := hg.reads
  go_enter Try.func6, Try.ntmps6
  obtain ⟨S0, hSd⟩ : ∃ S : World → Prop, S = (fun W => Below w.heap.size w W ∧ p.ok W ∧ Rd W aa (ints args)) := ⟨_, rfl⟩
  have st0 : St S0 := by rw [hSd]; infer_instance
  have F_low : Hid (∀ W, S0 W → Below w.heap.size w W) := by show ∀ W, _; rw [hSd]; exact fun W h => h.1
  have F_ok : Hid (∀ W, S0 W → p.ok W) := by show ∀ W, _; rw [hSd]; exact fun W h => h.2.1
  have F_rda : Hid (∀ W, S0 W → Rd W aa (ints args)) := by show ∀ W, _; rw [hSd]; exact fun W h => h.2.2
  have HS0 : Hid (S0 w) := by show S0 w; rw [hSd]; exact ⟨Below.refl _ _, hok, hrd0⟩
  clear hSd
  clear hok hg hrd0
  go_wp2_with (refine at_box _ _ rfl ?_)
  refine Stop.to ?_
  refine wpList_box_gen rfl 25 _ rfl p.cells rfl ?_
  intro G_1 w_2 hG rG bG
  have hprev := st0.go HS0.out (bG.mono hG)
  obtain ⟨S1, hSd⟩ : ∃ S : World → Prop, S = (fun W => S0 W ∧ Row W G_1 25 p.cells) := ⟨_, rfl⟩
  have st1 : St S1 := by rw [hSd]; infer_instance
  have D1 : Hid (∀ W, S1 W → S0 W) := by show ∀ W, _; rw [hSd]; exact fun W h => h.1
  have F_P : Hid (∀ W, S1 W → Row W G_1 25 p.cells) := by show ∀ W, _; rw [hSd]; exact fun W h => h.2
  have HS1 : Hid (S1 w_2) := by show S1 w_2; rw [hSd]; exact ⟨hprev, rG⟩
  clear hSd
  clear hprev HS0 hG rG bG
  go_wp2_with fail
  refine (works16_any w_2).mono ?_
  rintro e w_3 ⟨rfl, bb⟩
  have hprev := st1.go HS1.out (bb)
  replace HS1 := Lib.hid hprev
  clear hprev bb
  go_wp2_with (refine wpList_load_row rfl 25 _ rfl G_1 rfl 25 p.cells (0, 0) _ (F_P.out _ HS1.out) Try.underlying25 rfl (by kernel_rfl) ?_)
  refine (few16_any p aa acap args.length fuel w_3).mono ?_
  rintro e w_4 ⟨rfl, bb⟩
  have hprev := st1.go HS1.out (bb)
  replace HS1 := Lib.hid hprev
  clear hprev bb
  generalize hq : fewZ p args.length fuel = q
  have Hq := Lib.hid hq
  clear hq
  cases q
  · skip
    go_wp2_with fail
    go_ret
    exact ⟨rfl, (F_low.out _ (D1.out _ HS1.out))⟩
  have hfz := fewZ_of Hq.out
  have Hbl := Lib.hid hfz.1
  have Hal := Lib.hid hfz.2.1
  have Hfu := Lib.hid hfz.2.2
  clear hfz Hq
  clear hfI hmI
  go_wp2_with (refine wpList_load_row rfl 25 _ rfl G_1 rfl 25 p.cells (0, 0) _ (F_P.out _ HS1.out) Try.underlying25 rfl (by kernel_rfl) ?_)
  refine (mRunA p aa acap args fuel w_4 (by have := Hbl.out; omega) (by have := Hal.out; omega) (F_ok.out _ (D1.out _ HS1.out)) (F_rda.out _ (D1.out _ HS1.out)) Hin.out).mono ?_
  rintro e w_5 ⟨A_a, c_a, rfl, hrd, hle_a, hmx_a, hni_a, bb⟩
  have hprev := st1.go HS1.out (bb)
  obtain ⟨S2, hSd⟩ : ∃ S : World → Prop, S = (fun W => S1 W ∧ Rd3 ((runZ p args fuel).rv A_a c_a) W) := ⟨_, rfl⟩
  have st2 : St S2 := by rw [hSd]; infer_instance
  have D2 : Hid (∀ W, S2 W → S1 W) := by show ∀ W, _; rw [hSd]; exact fun W h => h.1
  have F_rd_a : Hid (∀ W, S2 W → Rd3 ((runZ p args fuel).rv A_a c_a) W) := by show ∀ W, _; rw [hSd]; exact fun W h => h.2
  have HS2 : Hid (S2 w_5) := by show S2 w_5; rw [hSd]; exact ⟨hprev, hrd⟩
  clear hSd
  clear hprev HS1 bb hrd
  go_wp2_with (refine at_alloc _ rfl ?_)
  refine Stop.to ?_
  refine wpList_alloc_gen rfl 32 rfl _ _ zero_run2 rfl ?_
  intro G_6 w_7 hG rG bG
  go_wp2_with (refine at_store _ _ _ rfl ?_)
  refine Stop.to ?_
  refine wpList_store_gen rfl 32 _ _ rfl G_6 ((runZ p args fuel).rv A_a c_a).cells rfl rfl 32 _ rG (by kernel_rfl) rfl (rv_one _) ?_
  intro w_8 rH oH
  have bH : Below (w_5).heap.size w_5 w_8 := (bG.mono hG).trans (oH.below hG)
  have hprev := st2.go HS2.out (bH)
  obtain ⟨S3, hSd⟩ : ∃ S : World → Prop, S = (fun W => S2 W ∧ Row W G_6 32 ((runZ p args fuel).rv A_a c_a).cells) := ⟨_, rfl⟩
  have st3 : St S3 := by rw [hSd]; infer_instance
  have D3 : Hid (∀ W, S3 W → S2 W) := by show ∀ W, _; rw [hSd]; exact fun W h => h.1
  have F_a : Hid (∀ W, S3 W → Row W G_6 32 ((runZ p args fuel).rv A_a c_a).cells) := by show ∀ W, _; rw [hSd]; exact fun W h => h.2
  have HS3 : Hid (S3 w_8) := by show S3 w_8; rw [hSd]; exact ⟨hprev, rH⟩
  clear hSd
  clear hprev HS2 hG rG bG rH oH bH
  have hel := run_few p args fuel
  by_cases hc0 : checkZ p args.length fuel = 0
  rotate_left
  · have hc1 : (checkZ p args.length fuel != 0) = true := by simpa using hc0
    have hz := runZ_no hc0
    generalize checkZ p args.length fuel = cz at hc1
    generalize runZ p args fuel = ra at *
    subst hz
    clear hc0
    have ca2 := (F_a.out _ HS3.out).cellv (i := 2) (v := .int .i64 0) rfl
    have ca3 := (F_a.out _ HS3.out).cellv (i := 3) (v := .slice A_a 0 c_a) rfl
    have Hout := Lib.hid (eql_outcome 0 0 0 0)
    have Hoc : Hid (∀ W, S3 W → ∀ j v, (outC 0 0)[j]? = some v → W.cell? ((⟨G_6, 0, none⟩ : Addr).add j) = some v) := by show ∀ W, _; intro W hW; have h := out_cells (r := (zeroS.rv A_a c_a)) (F_a.out _ hW); rw [show ((zeroS.rv A_a c_a)).kind = 0 from rfl, show ((zeroS.rv A_a c_a)).value = 0 from rfl] at h; exact h
    go_wp2_with (refine at_load 29 _ rfl ?_)
    refine Stop.to ?_
    refine wpList_holdN S3 3 HS3.out ?_
    simp only [List.take_succ_cons, List.take_zero, List.drop_succ_cons, List.drop_zero]
    (refine hold_load_at rfl 29 _ rfl (⟨G_6, 0, none⟩) rfl (outC 0 0) _ Hoc.out Try.underlying29 rfl (by kernel_rfl) ?_; simp only [Act.put, List.setIfInBounds_toArray, List.set_cons_zero, List.set_cons_succ])
    (refine hold_value rfl ?_ (fun W hW => ?_) ?_; rotate_left; (focus (go_simp; exact rfl)); simp only [Act.put, List.setIfInBounds_toArray, List.set_cons_zero, List.set_cons_succ])
    refine hold_value rfl (.bool true) (fun W _ => run_exec_binop rfl _ (run_eqGuard_agg _ _ _ _ _ _ _ (by kernel_rfl)) (by exact Hout.out W)) ?_
    simp only [Act.put, List.setIfInBounds_toArray, List.set_cons_zero, List.set_cons_succ]
    refine wpHold_nil fun W9 hW9 => ?_
    clear ca2 ca3
    clear HS3
    have HS3 : Hid (S3 W9) := hW9
    clear hW9
    go_wp2_with fail
    go_ret
    exact ⟨rfl, (F_low.out _ (D1.out _ (D2.out _ (D3.out _ HS3.out))))⟩
  obtain ⟨t, v, s, hK⟩ := runZ_is (F_ok.out _ (D1.out _ (D2.out _ (D3.out _ HS3.out)))) Hin.out hc0
  obtain ⟨k, x, hout, hkx, hevs⟩ := hK.kind
  rw [hc0]
  generalize runZ p args fuel = ra at *
  have hk1 : (ra.out.getD (0, 0)).1 = k := by rw [hout]; rfl
  have hx1 : (ra.out.getD (0, 0)).2 = x := by rw [hout]; rfl
  have d1 : decide (k < 0) = false := by simp; omega
  have d2 : decide (4 < k) = false := by simp; omega
  have Hevs := Lib.hid hevs
  have Hkx := Lib.hid hkx
  clear hK hc0 hout hevs hle_a hmx_a hni_a
  have ca0 := (F_a.out _ HS3.out).cellv (i := 0) (v := .int .i64 (ra.out.getD (0, 0)).1) rfl
  have ca1 := (F_a.out _ HS3.out).cellv (i := 1) (v := .int .i64 (ra.out.getD (0, 0)).2) rfl
  rw [hk1] at ca0
  rw [hx1] at ca1
  clear hk1 hx1
  have ca3 := (F_a.out _ HS3.out).cellv (i := 3) (v := .slice A_a ra.evs.length c_a) rfl
  have dk : k = 0 ∨ (k != 0) = true ∧ x = 0 := by have := Hkx.out; by_cases h : k = 0; exact .inl h; exact .inr ⟨by simpa using h, by omega⟩
  clear hkx
  have hnn : (n < 0 ∨ (ra.evs.length : Int) ≤ n) ∨ ∃ i : Nat, n = (i : Int) ∧ i < ra.evs.length := by by_cases h : n < 0 ∨ (ra.evs.length : Int) ≤ n; exact .inl h; exact .inr ⟨n.toNat, by omega, by omega⟩
  rcases hnn with hno | ⟨i, rfl, hil⟩
  · rcases hno with hno | hno
    · rcases dk with rfl | ⟨dk, rfl⟩
      · skip
        go_wp2_with fail
        go_ret
        exact ⟨rfl, (F_low.out _ (D1.out _ (D2.out _ (D3.out _ HS3.out))))⟩
      · skip
        go_wp2_with fail
        go_ret
        exact ⟨rfl, (F_low.out _ (D1.out _ (D2.out _ (D3.out _ HS3.out))))⟩
    · rcases dk with rfl | ⟨dk, rfl⟩
      · skip
        have hn0 : decide (n < 0) = false := by simp; omega
        go_wp2_with fail
        go_ret
        exact ⟨rfl, (F_low.out _ (D1.out _ (D2.out _ (D3.out _ HS3.out))))⟩
      · skip
        have hn0 : decide (n < 0) = false := by simp; omega
        go_wp2_with fail
        go_ret
        exact ⟨rfl, (F_low.out _ (D1.out _ (D2.out _ (D3.out _ HS3.out))))⟩
  obtain ⟨e0, he⟩ : ∃ e, ra.evs[i]? = some e := ⟨_, List.getElem?_eq_getElem hil⟩
  have hOk := Hevs.out e0 (List.mem_of_getElem? he)
  have d3 : decide (ra.evs.length ≤ i) = false := by simp; omega
  obtain ⟨ad, had, hca⟩ := Rd.part (F_rd_a.out _ (D3.out _ HS3.out)) (i * 3) e0.cells (evcells_at ra.evs i e0 he) (by simp [EvV.cells])
  have had2 : A_a = some ad := had
  subst had2
  have Hca := Lib.hid hca
  have hii : (i : Int) < (ra.evs.length : Int) := by omega
  clear hca had he hil
  obtain ⟨vn, hvn⟩ : ∃ vn : Nat, e0.var = (vn : Int) := ⟨e0.var.toNat, by have := hOk.lo; omega⟩
  obtain ⟨t1, ht1, hhow⟩ := hOk.how
  rw [hvn, Int.toNat_natCast] at ht1
  have d4 : decide (p.V.length ≤ vn) = false := by have := (List.getElem?_eq_some_iff.1 ht1).1; simp; omega
  have d5 : (vn : Int) < (p.V.length : Int) := by have := (List.getElem?_eq_some_iff.1 ht1).1; omega
  obtain ⟨var0, at0, val0⟩ := e0
  simp only at hvn hhow
  subst hvn
  have hti : InI t1 := ((F_ok.out _ (D1.out _ (D2.out _ (D3.out _ HS3.out))))).vin t1 (List.mem_of_getElem? ht1)
  have Hhow := Lib.hid hhow
  have Ht1 := Lib.hid ht1
  clear hhow ht1 hOk
  rcases dk with rfl | ⟨dk, rfl⟩
  · skip
    go_wp2_with (first | (refine wpList_load_at rfl 41 _ rfl (ad.add (i * 3)) rfl (EvV.cells ⟨(vn : Int), at0, val0⟩) _ Hca.out Try.underlying41 rfl (by kernel_rfl) ?_) | (refine at_alloc _ rfl ?_))
    refine Stop.to ?_
    refine wpList_alloc_gen rfl 41 rfl _ _ zero_event rfl ?_
    intro G_9 w_10 hG rG bG
    go_wp2_with (refine at_store _ _ _ rfl ?_)
    refine Stop.to ?_
    refine wpList_store_gen rfl 41 _ _ rfl G_9 (EvV.cells ⟨(vn : Int), at0, val0⟩).toArray rfl rfl 41 _ rG (by kernel_rfl) rfl (by simp [EvV.cells, Value.oneCell']) ?_
    intro w_11 rH oH
    have bH : Below (w_8).heap.size w_8 w_11 := (bG.mono hG).trans (oH.below hG)
    have hprev := st3.go HS3.out (bH)
    obtain ⟨S4, hSd⟩ : ∃ S : World → Prop, S = (fun W => S3 W ∧ Row W G_9 41 (EvV.cells ⟨(vn : Int), at0, val0⟩).toArray) := ⟨_, rfl⟩
    have st4 : St S4 := by rw [hSd]; infer_instance
    have D4 : Hid (∀ W, S4 W → S3 W) := by show ∀ W, _; rw [hSd]; exact fun W h => h.1
    have F_x : Hid (∀ W, S4 W → Row W G_9 41 (EvV.cells ⟨(vn : Int), at0, val0⟩).toArray) := by show ∀ W, _; rw [hSd]; exact fun W h => h.2
    have HS4 : Hid (S4 w_11) := by show S4 w_11; rw [hSd]; exact ⟨hprev, rH⟩
    clear hSd
    clear hprev HS3 hG rG bG rH oH bH
    clear ca0 ca1 ca3
    have cp1 := (F_P.out _ (D2.out _ (D3.out _ (D4.out _ HS4.out)))).cellv (i := 1) (v := .slice p.va p.V.length p.vcap) rfl
    obtain ⟨vd, hvd, cv⟩ := int_at ((F_ok.out _ (D1.out _ (D2.out _ (D3.out _ (D4.out _ HS4.out)))))).vrd Ht1.out
    rw [hvd] at cp1
    clear hvd
    have cx0 := (F_x.out _ HS4.out).cellv (i := 0) (v := .int .i64 (vn : Int)) rfl
    have cx1 := (F_x.out _ HS4.out).cellv (i := 1) (v := .int .i64 at0) rfl
    have cx2 := (F_x.out _ HS4.out).cellv (i := 2) (v := .int .i64 val0) rfl
    go_wp2_with fail
    refine (size_any t1 _ hti).mono ?_
    rintro e _ ⟨rfl, rfl⟩
    rcases Hhow.out with ⟨hs, rfl, hv3⟩ | ⟨hs, h0, h1⟩
    · rw [hs]
      have hv4 : (t1 == 0) = true ∨ (t1 == 0) = false ∧ (val0 = 0 ∨ val0 = 1) := by rcases hv3 with h | h | h; exact .inl (by simpa using h); by_cases h5 : t1 = 0; exact .inl (by simpa using h5); exact .inr ⟨by simpa using h5, .inl h⟩; by_cases h5 : t1 = 0; exact .inl (by simpa using h5); exact .inr ⟨by simpa using h5, .inr h⟩
      clear hv3 hs
      rcases hv4 with hv4 | ⟨hv4, rfl | rfl⟩
      · skip
        go_wp2_with fail
        go_ret
        exact ⟨rfl, (F_low.out _ (D1.out _ (D2.out _ (D3.out _ (D4.out _ HS4.out)))))⟩
      · skip
        go_wp2_with fail
        go_ret
        exact ⟨rfl, (F_low.out _ (D1.out _ (D2.out _ (D3.out _ (D4.out _ HS4.out)))))⟩
      · skip
        go_wp2_with fail
        go_ret
        exact ⟨rfl, (F_low.out _ (D1.out _ (D2.out _ (D3.out _ (D4.out _ HS4.out)))))⟩
    generalize sizeZ t1 = sz at *
    have d6 : (sz == 0) = false := by simpa using hs
    clear hs
    go_wp2_with fail
    go_ret
    exact ⟨rfl, (F_low.out _ (D1.out _ (D2.out _ (D3.out _ (D4.out _ HS4.out)))))⟩
  · skip
    go_wp2_with (first | (refine wpList_load_at rfl 41 _ rfl (ad.add (i * 3)) rfl (EvV.cells ⟨(vn : Int), at0, val0⟩) _ Hca.out Try.underlying41 rfl (by kernel_rfl) ?_) | (refine at_alloc _ rfl ?_))
    refine Stop.to ?_
    refine wpList_alloc_gen rfl 41 rfl _ _ zero_event rfl ?_
    intro G_12 w_13 hG rG bG
    go_wp2_with (refine at_store _ _ _ rfl ?_)
    refine Stop.to ?_
    refine wpList_store_gen rfl 41 _ _ rfl G_12 (EvV.cells ⟨(vn : Int), at0, val0⟩).toArray rfl rfl 41 _ rG (by kernel_rfl) rfl (by simp [EvV.cells, Value.oneCell']) ?_
    intro w_14 rH oH
    have bH : Below (w_8).heap.size w_8 w_14 := (bG.mono hG).trans (oH.below hG)
    have hprev := st3.go HS3.out (bH)
    obtain ⟨S4, hSd⟩ : ∃ S : World → Prop, S = (fun W => S3 W ∧ Row W G_12 41 (EvV.cells ⟨(vn : Int), at0, val0⟩).toArray) := ⟨_, rfl⟩
    have st4 : St S4 := by rw [hSd]; infer_instance
    have D4 : Hid (∀ W, S4 W → S3 W) := by show ∀ W, _; rw [hSd]; exact fun W h => h.1
    have F_x : Hid (∀ W, S4 W → Row W G_12 41 (EvV.cells ⟨(vn : Int), at0, val0⟩).toArray) := by show ∀ W, _; rw [hSd]; exact fun W h => h.2
    have HS4 : Hid (S4 w_14) := by show S4 w_14; rw [hSd]; exact ⟨hprev, rH⟩
    clear hSd
    clear hprev HS3 hG rG bG rH oH bH
    clear ca0 ca1 ca3
    have cp1 := (F_P.out _ (D2.out _ (D3.out _ (D4.out _ HS4.out)))).cellv (i := 1) (v := .slice p.va p.V.length p.vcap) rfl
    obtain ⟨vd, hvd, cv⟩ := int_at ((F_ok.out _ (D1.out _ (D2.out _ (D3.out _ (D4.out _ HS4.out)))))).vrd Ht1.out
    rw [hvd] at cp1
    clear hvd
    have cx0 := (F_x.out _ HS4.out).cellv (i := 0) (v := .int .i64 (vn : Int)) rfl
    have cx1 := (F_x.out _ HS4.out).cellv (i := 1) (v := .int .i64 at0) rfl
    have cx2 := (F_x.out _ HS4.out).cellv (i := 2) (v := .int .i64 val0) rfl
    go_wp2_with fail
    refine (size_any t1 _ hti).mono ?_
    rintro e _ ⟨rfl, rfl⟩
    rcases Hhow.out with ⟨hs, rfl, hv3⟩ | ⟨hs, h0, h1⟩
    · rw [hs]
      have hv4 : (t1 == 0) = true ∨ (t1 == 0) = false ∧ (val0 = 0 ∨ val0 = 1) := by rcases hv3 with h | h | h; exact .inl (by simpa using h); by_cases h5 : t1 = 0; exact .inl (by simpa using h5); exact .inr ⟨by simpa using h5, .inl h⟩; by_cases h5 : t1 = 0; exact .inl (by simpa using h5); exact .inr ⟨by simpa using h5, .inr h⟩
      clear hv3 hs
      rcases hv4 with hv4 | ⟨hv4, rfl | rfl⟩
      · skip
        go_wp2_with fail
        go_ret
        exact ⟨rfl, (F_low.out _ (D1.out _ (D2.out _ (D3.out _ (D4.out _ HS4.out)))))⟩
      · skip
        go_wp2_with fail
        go_ret
        exact ⟨rfl, (F_low.out _ (D1.out _ (D2.out _ (D3.out _ (D4.out _ HS4.out)))))⟩
      · skip
        go_wp2_with fail
        go_ret
        exact ⟨rfl, (F_low.out _ (D1.out _ (D2.out _ (D3.out _ (D4.out _ HS4.out)))))⟩
    generalize sizeZ t1 = sz at *
    have d6 : (sz == 0) = false := by simpa using hs
    clear hs
    go_wp2_with fail
    go_ret
    exact ⟨rfl, (F_low.out _ (D1.out _ (D2.out _ (D3.out _ (D4.out _ HS4.out)))))⟩
end Go.Proofs.Ytlglilmgklipdaa
