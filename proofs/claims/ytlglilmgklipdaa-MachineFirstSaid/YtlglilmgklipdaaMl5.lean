/- The walk over the law MachineFirst. Conditions: stated in the theorem. -/
import Derived.Test.YtlglilmgklipdaaWk16
import Derived.Test.YtlglilmgklipdaaOpP
import Derived.Test.YtlglilmgklipdaaMlC
namespace Go.Proofs.Ytlglilmgklipdaa
set_option linter.unusedVariables false
open Go.RowKit Go.Deep

set_option maxRecDepth 100000 in
set_option maxHeartbeats 16000000 in
theorem machineFirst_walk (p : PgV) (g : IntsV) (fuel : Int) (hfI : -9223372036854775808 ≤ fuel ∧ fuel ≤ 9223372036854775807) (w : World) (hok : p.ok w) (hg : g.ok w) : Calls Try.prog 7 #[p.val, g.val, .int .i64 fuel] w fun e w' => e = .returned (.bool true) ∧ Below w.heap.size w w' := by
  obtain ⟨aa, acap, args⟩ := g
  rw [show p.val = .agg p.cells from rfl, show (IntsV.mk aa acap args).val = .slice aa args.length acap from rfl]
  have Hin : Hid (∀ a ∈ args, InI a) := hg.all
  have hrd0 : Rd w aa (ints args) := hg.reads
  go_enter Try.func7, Try.ntmps7
  obtain ⟨S0, hSd⟩ : ∃ S : World → Prop, S = (fun W => Below w.heap.size w W ∧ p.ok W ∧ Rd W aa (ints args)) := ⟨_, rfl⟩
  have st0 : St S0 := by rw [hSd]; infer_instance
  have F_low : Hid (∀ W, S0 W → Below w.heap.size w W) := by show ∀ W, _; rw [hSd]; exact fun W h => h.1
  have F_ok : Hid (∀ W, S0 W → p.ok W) := by show ∀ W, _; rw [hSd]; exact fun W h => h.2.1
  have F_rda : Hid (∀ W, S0 W → Rd W aa (ints args)) := by show ∀ W, _; rw [hSd]; exact fun W h => h.2.2
  have HS0 : Hid (S0 w) := by show S0 w; rw [hSd]; exact ⟨Below.refl _ _, hok, hrd0⟩
  clear hSd
  clear hok hg hrd0
  go_wp2_with (refine at_box _ _ rfl ?_)
  refine Stop.to ?_
  refine wpList_box_gen rfl 25 _ rfl p.cells rfl ?_
  intro G_1 w_2 hG rG bG
  have hprev := st0.go HS0.out (bG.mono hG)
  obtain ⟨S1, hSd⟩ : ∃ S : World → Prop, S = (fun W => S0 W ∧ Row W G_1 25 p.cells) := ⟨_, rfl⟩
  have st1 : St S1 := by rw [hSd]; infer_instance
  have D1 : Hid (∀ W, S1 W → S0 W) := by show ∀ W, _; rw [hSd]; exact fun W h => h.1
  have F_P : Hid (∀ W, S1 W → Row W G_1 25 p.cells) := by show ∀ W, _; rw [hSd]; exact fun W h => h.2
  have HS1 : Hid (S1 w_2) := by show S1 w_2; rw [hSd]; exact ⟨hprev, rG⟩
  clear hSd
  clear hprev HS0 hG rG bG
  go_wp2_with fail
  refine (works16_any w_2).mono ?_
  rintro e w_3 ⟨rfl, bb⟩
  have hprev := st1.go HS1.out (bb)
  replace HS1 := Lib.hid hprev
  clear hprev bb
  go_wp2_with (refine wpList_load_row rfl 25 _ rfl G_1 rfl 25 p.cells (0, 0) _ (F_P.out _ HS1.out) Try.underlying25 rfl (by kernel_rfl) ?_)
  refine (few16_any p aa acap args.length fuel w_3).mono ?_
  rintro e w_4 ⟨rfl, bb⟩
  have hprev := st1.go HS1.out (bb)
  replace HS1 := Lib.hid hprev
  clear hprev bb
  generalize hq : fewZ p args.length fuel = q
  have Hq := Lib.hid hq
  clear hq
  cases q
  · skip
    go_wp2_with fail
    go_ret
    exact ⟨rfl, (F_low.out _ (D1.out _ HS1.out))⟩
  have hfz := fewZ_of Hq.out
  have Hbl := Lib.hid hfz.1
  have Hal := Lib.hid hfz.2.1
  have Hfu := Lib.hid hfz.2.2
  clear hfz Hq
  have HfI := Lib.hid hfI
  clear hfI
  by_cases h1 : fuel < 1
  · skip
    go_wp2_with fail
    go_ret
    exact ⟨rfl, (F_low.out _ (D1.out _ HS1.out))⟩
  have h1p : 1 ≤ fuel := by omega
  have cp2 := (F_P.out _ HS1.out).cellv (i := 2) (v := .slice p.ba p.body.length p.bcap) rfl
  by_cases h2 : p.body.length = 0
  · have h2p : ((p.body.length : Int) == 0) = true := by simp [h2]
    clear h2
    go_wp2_with fail
    go_ret
    exact ⟨rfl, (F_low.out _ (D1.out _ HS1.out))⟩
  have h2p : ((p.body.length : Int) == 0) = false := by simpa using h2
  obtain ⟨x, hx⟩ : ∃ x, p.body[0]? = some x := ⟨_, List.getElem?_eq_getElem (by omega)⟩
  obtain ⟨bd, hbd, hcx⟩ := nd_at ((F_ok.out _ (D1.out _ HS1.out))).brd hx
  have hcn := hcx 1 (.int .i64 x.n) rfl
  rw [show (bd.add (0 * 2)).add 1 = ⟨bd.block, bd.off + 1, none⟩ by rw [add_add']; simp [Addr.add]] at hcn
  rw [hbd] at cp2
  have hl0 : (0 : Int) < (p.body.length : Int) := by omega
  have Hx := Lib.hid hx
  have H2 := Lib.hid h2
  have H1 := Lib.hid h1p
  clear hcx hx h2
  by_cases h3 : 60 < x.n
  · skip
    go_wp2_with fail
    go_ret
    exact ⟨rfl, (F_low.out _ (D1.out _ HS1.out))⟩
  have h3p : x.n ≤ 60 := by omega
  have H3 := Lib.hid h3p
  go_wp2_with (refine wpList_load_row rfl 25 _ rfl G_1 rfl 25 p.cells (0, 0) _ (F_P.out _ HS1.out) Try.underlying25 rfl (by kernel_rfl) ?_)
  refine (mRunA p aa acap args fuel w_4 (by have := Hbl.out; omega) (by have := Hal.out; omega) (F_ok.out _ (D1.out _ HS1.out)) (F_rda.out _ (D1.out _ HS1.out)) Hin.out).mono ?_
  rintro e w_5 ⟨A_a, c_a, rfl, hrd, hle_a, hmx_a, hni_a, bb⟩
  have hprev := st1.go HS1.out (bb)
  obtain ⟨S2, hSd⟩ : ∃ S : World → Prop, S = (fun W => S1 W ∧ Rd3 ((runZ p args fuel).rv A_a c_a) W) := ⟨_, rfl⟩
  have st2 : St S2 := by rw [hSd]; infer_instance
  have D2 : Hid (∀ W, S2 W → S1 W) := by show ∀ W, _; rw [hSd]; exact fun W h => h.1
  have F_rd_a : Hid (∀ W, S2 W → Rd3 ((runZ p args fuel).rv A_a c_a) W) := by show ∀ W, _; rw [hSd]; exact fun W h => h.2
  have HS2 : Hid (S2 w_5) := by show S2 w_5; rw [hSd]; exact ⟨hprev, hrd⟩
  clear hSd
  clear hprev HS1 bb hrd
  clear cp2 hcn
  go_wp2_with (refine at_alloc _ rfl ?_)
  refine Stop.to ?_
  refine wpList_alloc_gen rfl 32 rfl _ _ zero_run2 rfl ?_
  intro G_6 w_7 hG rG bG
  go_wp2_with (refine at_store _ _ _ rfl ?_)
  refine Stop.to ?_
  refine wpList_store_gen rfl 32 _ _ rfl G_6 ((runZ p args fuel).rv A_a c_a).cells rfl rfl 32 _ rG (by kernel_rfl) rfl (rv_one _) ?_
  intro w_8 rH oH
  have bH : Below (w_5).heap.size w_5 w_8 := (bG.mono hG).trans (oH.below hG)
  have hprev := st2.go HS2.out (bH)
  obtain ⟨S3, hSd⟩ : ∃ S : World → Prop, S = (fun W => S2 W ∧ Row W G_6 32 ((runZ p args fuel).rv A_a c_a).cells) := ⟨_, rfl⟩
  have st3 : St S3 := by rw [hSd]; infer_instance
  have D3 : Hid (∀ W, S3 W → S2 W) := by show ∀ W, _; rw [hSd]; exact fun W h => h.1
  have F_a : Hid (∀ W, S3 W → Row W G_6 32 ((runZ p args fuel).rv A_a c_a).cells) := by show ∀ W, _; rw [hSd]; exact fun W h => h.2
  have HS3 : Hid (S3 w_8) := by show S3 w_8; rw [hSd]; exact ⟨hprev, rH⟩
  clear hSd
  clear hprev HS2 hG rG bG rH oH bH
  clear h1 h3 h1p h3p
  by_cases hc0 : checkZ p args.length fuel = 0
  rotate_left
  · have hc1 : (checkZ p args.length fuel != 0) = true := by simpa using hc0
    generalize checkZ p args.length fuel = cz at hc1
    clear hc0
    go_wp2_with fail
    go_ret
    exact ⟨rfl, (F_low.out _ (D1.out _ (D2.out _ (D3.out _ HS3.out))))⟩
  have hf4 : fuel ≤ 400 := by have := Hfu.out; obtain ⟨_, _, _, _, a7⟩ := checkZ_zero hc0; omega
  have hL := fun q => first_law (q := q) (F_ok.out _ (D1.out _ (D2.out _ (D3.out _ HS3.out)))) Hin.out hc0 H1.out hf4 Hx.out H3.out
  rw [hc0]
  have HL := Lib.hid hL
  have hel := run_few p args fuel
  have hInx : InI x.n := (((F_ok.out _ (D1.out _ (D2.out _ (D3.out _ HS3.out))))).bin x (List.mem_of_getElem? Hx.out)).2
  have hn0 : 0 ≤ x.n := by obtain ⟨t, hg, _⟩ := checkZ_zero hc0; have h1 := hg.hat.root; rw [Hx.out] at h1; injection h1 with h1; have h2 := hg.hat.fits.arity; have h3 := hg.tag; rw [← h1] at h2 h3; have := arity_tag (x := x) (by omega); omega
  have ewn : IntKind.i64.wrap (x.n + 1) = x.n + 1 := IntWalk.i64_in _ (by have := H3.out; omega)
  have ewf : IntKind.i64.wrap (fuel + 1) = fuel + 1 := IntWalk.i64_in _ (by have := H1.out; omega)
  have HLs : Hid ((runZ p args fuel).steps ≤ 10000) := by show _ ≤ _; obtain ⟨t, v, s, hK⟩ := runZ_is (F_ok.out _ (D1.out _ (D2.out _ (D3.out _ HS3.out)))) Hin.out hc0; have := hK.steps; rw [hK.eq, stopped_steps]; omega
  clear hc0 hL hle_a hmx_a hni_a hInx hn0
  have hP2 : Hid (∀ W, S3 W → W.cell? ⟨G_1, 2, none⟩ = some (.slice (some bd) p.body.length p.bcap)) := by show ∀ W, _; intro W hW; rw [← hbd]; exact (F_P.out _ (D2.out _ (D3.out _ hW))).cellv (i := 2) rfl
  have hXn : Hid (∀ W, S3 W → W.cell? ⟨bd.block, bd.off + 1, none⟩ = some (.int .i64 x.n)) := by
    show ∀ W, _
    intro W hW
    obtain ⟨bd2, hbd2, hcx⟩ := nd_at ((F_ok.out _ (D1.out _ (D2.out _ (D3.out _ hW))))).brd Hx.out
    rw [hbd] at hbd2
    injection hbd2 with e
    subst e
    have hcn := hcx 1 (.int .i64 x.n) rfl
    rw [show (bd.add (0 * 2)).add 1 = ⟨bd.block, bd.off + 1, none⟩ by rw [add_add']; simp [Addr.add]] at hcn
    exact hcn
  obtain ⟨X, hX, hXr⟩ := tail_at (W := w_8) (l := p.body) ((F_ok.out _ (D1.out _ (D2.out _ (D3.out _ HS3.out))))).brd hbd ((F_ok.out _ (D1.out _ (D2.out _ (D3.out _ HS3.out))))).blen H2.out
  obtain ⟨i0, hi0, hz0, hz1, hz2⟩ := info_parts info_node
  have HX := Lib.hid hX
  have HXr := Lib.hid hXr
  have hbl60 := Hbl.out
  have hbc := ((F_ok.out _ (D1.out _ (D2.out _ (D3.out _ HS3.out))))).bmax
  clear hX hXr
  go_wp2_with fail
  refine wp_region_held (S := S3) (by kernel_rfl) ?_
  simp only [List.size_toArray, List.length_cons, List.length_nil, Nat.reduceAdd, Array.replicate_succ, Array.replicate_zero, List.push_toArray, List.nil_append, List.cons_append]
  show wpAnyH _ _ _ _ _ _ _ _ (w_8).drew
  have hbw0 : Below (w_8).heap.size w_8 (w_8).drew := ⟨rfl, rfl, rfl, Nat.le_refl _, fun _ _ => rfl⟩
  have hSd2 : S3 (w_8).drew := St.drew HS3.out
  generalize (w_8).drew = wd at hSd2 hbw0 ⊢
  (refine takeH (i := 0) (v := .pointer (some ⟨G_1, 2, none⟩)) rfl (by kernel_rfl) (by kernel_rfl) (by kernel_rfl) (fun _ _ _ h => h) (yields_val rfl (fun W hW => by (go_simp))) (by assumption) ?_; simp only [Act.put, List.setIfInBounds_toArray, List.set_cons_zero, List.set_cons_succ])
  (refine takeH (i := 1) (v := .slice (some bd) p.body.length p.bcap) rfl (by kernel_rfl) (by kernel_rfl) (by kernel_rfl) (fun _ _ _ h => h) (yields_val rfl (fun W hW => by ((have h := hP2.out W hW; go_simp)))) (by assumption) ?_; simp only [Act.put, List.setIfInBounds_toArray, List.set_cons_zero, List.set_cons_succ])
  (refine takeH (i := 2) (v := .pointer (some bd)) rfl (by kernel_rfl) (by kernel_rfl) (by kernel_rfl) (fun _ _ _ h => h) (yields_val rfl (fun W hW => by (go_simp))) (by assumption) ?_; simp only [Act.put, List.setIfInBounds_toArray, List.set_cons_zero, List.set_cons_succ])
  (refine takeH (i := 3) (v := .pointer (some ⟨bd.block, bd.off + 1, none⟩)) rfl (by kernel_rfl) (by kernel_rfl) (by kernel_rfl) (fun _ _ _ h => h) (yields_val rfl (fun W hW => by (go_simp))) (by assumption) ?_; simp only [Act.put, List.setIfInBounds_toArray, List.set_cons_zero, List.set_cons_succ])
  (refine takeH (i := 4) (v := .int .i64 x.n) rfl (by kernel_rfl) (by kernel_rfl) (by kernel_rfl) (fun _ _ _ h => h) (yields_val rfl (fun W hW => by ((have h := hXn.out W hW; go_simp)))) (by assumption) ?_; simp only [Act.put, List.setIfInBounds_toArray, List.set_cons_zero, List.set_cons_succ])
  (refine takeH (i := 5) (v := .int .i64 (x.n + 1)) rfl (by kernel_rfl) (by kernel_rfl) (by kernel_rfl) (fun _ _ _ h => h) (yields_val rfl (fun W hW => by (go_simp))) (by assumption) ?_; simp only [Act.put, List.setIfInBounds_toArray, List.set_cons_zero, List.set_cons_succ])
  (refine takeH (i := 6) (v := .agg (Nd.cells ⟨20, x.n + 1⟩).toArray) rfl (by kernel_rfl) (by kernel_rfl) (by kernel_rfl) (fun _ _ _ h => h) (yields_val rfl (fun W hW => by (go_simp; try rfl))) (by assumption) ?_; simp only [Act.put, List.setIfInBounds_toArray, List.set_cons_zero, List.set_cons_succ])
  (refine takeH (i := 7) (v := .agg (Nd.cells ⟨26, 0⟩).toArray) rfl (by kernel_rfl) (by kernel_rfl) (by kernel_rfl) (fun _ _ _ h => h) (yields_val rfl (fun W hW => by (go_simp; try rfl))) (by assumption) ?_; simp only [Act.put, List.setIfInBounds_toArray, List.set_cons_zero, List.set_cons_succ])
  (refine takeH (i := 9) (v := .pointer (some ⟨G_1, 2, none⟩)) rfl (by kernel_rfl) (by kernel_rfl) (by kernel_rfl) (fun _ _ _ h => h) (yields_val rfl (fun W hW => by (go_simp))) (by assumption) ?_; simp only [Act.put, List.setIfInBounds_toArray, List.set_cons_zero, List.set_cons_succ])
  (refine takeH (i := 10) (v := .slice (some bd) p.body.length p.bcap) rfl (by kernel_rfl) (by kernel_rfl) (by kernel_rfl) (fun _ _ _ h => h) (yields_val rfl (fun W hW => by ((have h := hP2.out W hW; go_simp)))) (by assumption) ?_; simp only [Act.put, List.setIfInBounds_toArray, List.set_cons_zero, List.set_cons_succ])
  (refine takeH (i := 11) (v := .slice (some X) (p.body.length - 1) (p.bcap - 1)) rfl (by kernel_rfl) (by kernel_rfl) (by kernel_rfl) (fun _ _ _ h => h) (yields_val rfl (fun W hW => by ((have h1 : (1 : Int) ≤ (p.body.length : Int) := by omega); go_simp; rw [HX.out]))) (by assumption) ?_; simp only [Act.put, List.setIfInBounds_toArray, List.set_cons_zero, List.set_cons_succ])
  (refine wpAnyH_all (rs := [8]) (by kernel_rfl) (by simp) (fun i hi => ?_); obtain rfl : i = 8 := by simpa using hi)
  refine wpOp_plain rfl rfl (fun K2 hK2 => ?_)
  have hbs : ∀ W, (Instr.buildSlice 23 2 #[(0, .agg (Nd.cells ⟨20, x.n + 1⟩).toArray), (1, .agg (Nd.cells ⟨26, 0⟩).toArray)]).run Try.prog W = .ok (.slice (some ⟨W.heap.size, 0, none⟩) 2 2) (W.alloc (.cells ([⟨20, x.n + 1⟩, ⟨26, 0⟩].flatMap Nd.cells).toArray 44)) := bs_run Try.underlying23 info_n (by decide) (by decide) (by kernel_rfl)
  refine wp_res_gen (.slice (some ⟨wd.heap.size, 0, none⟩) 2 2) (w1 := wd.alloc (.cells ([⟨20, x.n + 1⟩, ⟨26, 0⟩].flatMap Nd.cells).toArray 44)) (by exact run_exec_buildSlice [(0, .tmp 57), (1, .tmp 58)] rfl (hbs wd)) ?_
  refine hK2 _ _ ?_
  clear hK2 K2
  simp only [Act.put, List.setIfInBounds_toArray, List.set_cons_zero, List.set_cons_succ]
  have hown0 := own_lit wd 44 2 2 ([⟨20, x.n + 1⟩, ⟨26, 0⟩].flatMap Nd.cells) (by rfl) (by decide)
  have bal : Below wd.heap.size wd (wd.alloc (.cells ([⟨20, x.n + 1⟩, ⟨26, 0⟩].flatMap Nd.cells).toArray 44)) := (Below.refl _ _).alloc (Nat.le_refl _) _
  have hSe2 := st3.go hSd2 bal
  refine ⟨hSe2, ?_⟩
  have hXe := (HXr.out.go hbw0).go bal
  have Hsz : (wd.alloc (.cells ([⟨20, x.n + 1⟩, ⟨26, 0⟩].flatMap Nd.cells).toArray 44)).heap.size = wd.heap.size + 1 := by simp only [World.alloc, Array.size_push]
  generalize wd.alloc (.cells ([⟨20, x.n + 1⟩, ⟨26, 0⟩].flatMap Nd.cells).toArray 44) = we at *
  (refine wpAnyH_all (rs := [12]) (by kernel_rfl) (by simp) (fun i hi => ?_); obtain rfl : i = 12 := by simpa using hi)
  refine wpOp_plain rfl rfl (fun K2 hK2 => ?_)
  refine wp_append_own_at (.tmp 59) (.tmp 62) 23 rfl wd.heap.size 44 i0 _ 2 16 Try.underlying23 hi0 hz0 hz1 hz2 rfl (by decide) (.slice (some ⟨wd.heap.size, 0, none⟩) 2 2) 2 _ rfl hown0 X (p.body.length - 1) (p.bcap - 1) (p.body.tail.flatMap Nd.cells) rfl (by rw [ndcells_len]; simp) (fun j u hj => by obtain ⟨ad, e, hc⟩ := hXe j u hj; injection e with e; subst e; exact hc) (ndcells_one _) (by unfold maxLen; omega) (by omega) (by rw [Hsz]; omega) ?_
  intro v2 wf hown hgr _
  refine hK2 _ _ ?_
  clear hK2 K2
  simp only [Act.put, List.setIfInBounds_toArray, List.set_cons_zero, List.set_cons_succ]
  have bwf : Below (w_8).heap.size w_8 wf := hbw0.trans ((below_grown_own bal hown0 hgr (by rw [Hsz]; omega) (Nat.le_refl _)).mono hbw0.size)
  have hSf := st3.go HS3.out bwf
  refine ⟨hSf, ?_⟩
  obtain ⟨A2, cap2, rfl, hr2, hc2, hm2, hn2⟩ := own_ev hown
  rw [← List.flatMap_append] at hr2
  have Hown := Lib.hid hr2
  clear hown hgr hown0 hXe bal hSe2 hr2
  (refine takeH (i := 13) (v := .slice A2 (2 + (p.body.length - 1)) cap2) rfl (by kernel_rfl) (by kernel_rfl) (by kernel_rfl) (fun _ _ _ h => h) (yields_val rfl (fun W hW => by (go_simp))) (by assumption) ?_; simp only [Act.put, List.setIfInBounds_toArray, List.set_cons_zero, List.set_cons_succ])
  refine wpAnyH_done (by kernel_rfl) ?_ _
  clear hSf hSd2 hbw0
  obtain ⟨nb, hnb⟩ : ∃ nb : List Nd, nb = [⟨20, x.n + 1⟩, ⟨26, 0⟩] ++ p.body.tail := ⟨_, rfl⟩
  have hln : 2 + (p.body.length - 1) = nb.length := by rw [hnb]; simp; omega
  rw [hln] at hc2 ⊢
  rw [← hnb] at Hown
  have Hnb := Lib.hid hnb
  clear hnb
  have hprev := st3.go HS3.out (bwf)
  obtain ⟨S4, hSd⟩ : ∃ S : World → Prop, S = (fun W => S3 W ∧ Rd W A2 (nb.flatMap Nd.cells)) := ⟨_, rfl⟩
  have st4 : St S4 := by rw [hSd]; infer_instance
  have D4 : Hid (∀ W, S4 W → S3 W) := by show ∀ W, _; rw [hSd]; exact fun W h => h.1
  have F_bod : Hid (∀ W, S4 W → Rd W A2 (nb.flatMap Nd.cells)) := by show ∀ W, _; rw [hSd]; exact fun W h => h.2
  have HS4 : Hid (S4 wf) := by show S4 wf; rw [hSd]; exact ⟨hprev, Hown.out⟩
  clear hSd
  clear hprev HS3 Hown bwf hln
  have hqok : Hid (∀ W, S4 W → (PgV.mk p.params p.va p.vcap p.V A2 cap2 nb).ok W) := by
    show ∀ W, _
    intro W hW
    have h := (F_ok.out _ (D1.out _ (D2.out _ (D3.out _ (D4.out _ hW)))))
    refine ⟨h.par, h.vlen, h.vmax, h.vnil, h.vrd, h.vin, hc2, hm2, hn2, (F_bod.out _ hW), fun y hy => ?_⟩
    have hy : y ∈ nb := hy
    rw [Hnb.out] at hy
    rcases List.mem_append.1 hy with hy | hy
    · simp only [List.mem_cons, List.not_mem_nil, or_false] at hy
      rcases hy with rfl | rfl
      · have h1 := (h.bin x (List.mem_of_getElem? Hx.out)).2; have h2 := H3.out; unfold InI at h1 ⊢; simp only; omega
      · unfold InI; simp only; omega
    · exact h.bin y (List.mem_of_mem_tail hy)
  have F_qok := hqok
  clear hqok
  have cp0 := (F_P.out _ (D2.out _ (D3.out _ (D4.out _ HS4.out)))).cellv (i := 0) (v := .int .i64 p.params) rfl
  have cp1 := (F_P.out _ (D2.out _ (D3.out _ (D4.out _ HS4.out)))).cellv (i := 1) (v := .slice p.va p.V.length p.vcap) rfl
  have HLq := HL.out (PgV.mk p.params p.va p.vcap p.V A2 cap2 nb) rfl rfl Hnb.out
  have HLQ := Lib.hid HLq
  clear HLq hc2 hm2 hn2
  go_wp2_with fail
  refine (mRunA (PgV.mk p.params p.va p.vcap p.V A2 cap2 nb) aa acap args (fuel + 1) wf (by have := Hbl.out; show nb.length ≤ 1000; rw [Hnb.out]; simp; omega) (by have := Hal.out; omega) (F_qok.out _ HS4.out) (F_rda.out _ (D1.out _ (D2.out _ (D3.out _ (D4.out _ HS4.out))))) Hin.out).mono ?_
  rintro e w_9 ⟨A_b, c_b, rfl, hrd, hle_b, hmx_b, hni_b, bb⟩
  have hprev := st4.go HS4.out (bb)
  obtain ⟨S5, hSd⟩ : ∃ S : World → Prop, S = (fun W => S4 W ∧ Rd3 ((runZ (PgV.mk p.params p.va p.vcap p.V A2 cap2 nb) args (fuel + 1)).rv A_b c_b) W) := ⟨_, rfl⟩
  have st5 : St S5 := by rw [hSd]; infer_instance
  have D5 : Hid (∀ W, S5 W → S4 W) := by show ∀ W, _; rw [hSd]; exact fun W h => h.1
  have F_rd_b : Hid (∀ W, S5 W → Rd3 ((runZ (PgV.mk p.params p.va p.vcap p.V A2 cap2 nb) args (fuel + 1)).rv A_b c_b) W) := by show ∀ W, _; rw [hSd]; exact fun W h => h.2
  have HS5 : Hid (S5 w_9) := by show S5 w_9; rw [hSd]; exact ⟨hprev, hrd⟩
  clear hSd
  clear hprev HS4 bb hrd
  clear cp0 cp1
  go_wp2_with (refine at_alloc _ rfl ?_)
  refine Stop.to ?_
  refine wpList_alloc_gen rfl 32 rfl _ _ zero_run2 rfl ?_
  intro G_10 w_11 hG rG bG
  go_wp2_with (refine at_store _ _ _ rfl ?_)
  refine Stop.to ?_
  refine wpList_store_gen rfl 32 _ _ rfl G_10 ((runZ (PgV.mk p.params p.va p.vcap p.V A2 cap2 nb) args (fuel + 1)).rv A_b c_b).cells rfl rfl 32 _ rG (by kernel_rfl) rfl (rv_one _) ?_
  intro w_12 rH oH
  have bH : Below (w_9).heap.size w_9 w_12 := (bG.mono hG).trans (oH.below hG)
  have hprev := st5.go HS5.out (bH)
  obtain ⟨S6, hSd⟩ : ∃ S : World → Prop, S = (fun W => S5 W ∧ Row W G_10 32 ((runZ (PgV.mk p.params p.va p.vcap p.V A2 cap2 nb) args (fuel + 1)).rv A_b c_b).cells) := ⟨_, rfl⟩
  have st6 : St S6 := by rw [hSd]; infer_instance
  have D6 : Hid (∀ W, S6 W → S5 W) := by show ∀ W, _; rw [hSd]; exact fun W h => h.1
  have F_b : Hid (∀ W, S6 W → Row W G_10 32 ((runZ (PgV.mk p.params p.va p.vcap p.V A2 cap2 nb) args (fuel + 1)).rv A_b c_b).cells) := by show ∀ W, _; rw [hSd]; exact fun W h => h.2
  have HS6 : Hid (S6 w_12) := by show S6 w_12; rw [hSd]; exact ⟨hprev, rH⟩
  clear hSd
  clear hprev HS5 hG rG bG rH oH bH
  rw [HLQ.out.1]
  have hst := HLQ.out.2.2.2
  have hout := HLQ.out.2.1
  have hevq := HLQ.out.2.2.1
  generalize runZ p args fuel = ra at *
  generalize runZ (PgV.mk p.params p.va p.vcap p.V A2 cap2 nb) args (fuel + 1) = rb at *
  have ca3 := (F_a.out _ (D4.out _ (D5.out _ (D6.out _ HS6.out)))).cellv (i := 3) (v := .slice A_a ra.evs.length c_a) rfl
  have cb3 := (F_b.out _ HS6.out).cellv (i := 3) (v := .slice A_b rb.evs.length c_b) rfl
  have Hst := Lib.hid hst
  have Hout := Lib.hid hout
  have Hevq := Lib.hid hevq
  clear hst hout hevq
  go_wp2_with fail
  refine (refEvents_any A_a A_b c_a c_b ra.evs rb.evs w_12 (F_rd_a.out _ (D3.out _ (D4.out _ (D5.out _ (D6.out _ HS6.out))))) (F_rd_b.out _ (D6.out _ HS6.out)) hel).mono ?_
  rintro e w_13 ⟨β, rfl, hβ, bb⟩
  obtain rfl : β = true := hβ.2 Hevq.out
  have hprev := st6.go HS6.out (bb)
  replace HS6 := Lib.hid hprev
  clear hprev bb hβ
  clear ca3 cb3
  have Heq := Lib.hid (eql_outcome (ra.rv A_a c_a).kind (ra.rv A_a c_a).value (rb.rv A_b c_b).kind (rb.rv A_b c_b).value)
  have Htr : Hid (((ra.rv A_a c_a).kind == (rb.rv A_b c_b).kind && (ra.rv A_a c_a).value == (rb.rv A_b c_b).value) = true) := by show _ = _; simp [Ms.rv, Hout.out]
  go_wp2_with (refine at_load 29 _ rfl ?_)
  refine Stop.to ?_
  refine wpList_holdN S6 4 HS6.out ?_
  simp only [List.take_succ_cons, List.take_zero, List.drop_succ_cons, List.drop_zero]
  (refine hold_load_at rfl 29 _ rfl (⟨G_6, 0, none⟩) rfl (outC (ra.rv A_a c_a).kind (ra.rv A_a c_a).value) _ (fun W hW => out_cells (F_a.out _ (D4.out _ (D5.out _ (D6.out _ hW))))) Try.underlying29 rfl (by kernel_rfl) ?_; simp only [Act.put, List.setIfInBounds_toArray, List.set_cons_zero, List.set_cons_succ])
  (refine hold_value rfl ?_ (fun W hW => ?_) ?_; rotate_left; (focus (go_simp; exact rfl)); simp only [Act.put, List.setIfInBounds_toArray, List.set_cons_zero, List.set_cons_succ])
  (refine hold_load_at rfl 29 _ rfl (⟨G_10, 0, none⟩) rfl (outC (rb.rv A_b c_b).kind (rb.rv A_b c_b).value) _ (fun W hW => out_cells (F_b.out _ hW)) Try.underlying29 rfl (by kernel_rfl) ?_; simp only [Act.put, List.setIfInBounds_toArray, List.set_cons_zero, List.set_cons_succ])
  refine hold_value rfl (.bool true) (fun W _ => run_exec_binop rfl _ (run_eqGuard_agg _ _ _ _ _ _ _ (by kernel_rfl)) (by rw [← Htr.out]; exact Heq.out W)) ?_
  simp only [Act.put, List.setIfInBounds_toArray, List.set_cons_zero, List.set_cons_succ]
  refine wpHold_nil fun W9 hW9 => ?_
  clear HS6
  have HS6 : Hid (S6 W9) := hW9
  clear hW9
  have ews : IntKind.i64.wrap ((ra.steps : Int) + 1) = (ra.steps : Int) + 1 := IntWalk.i64_in _ (by have := HLs.out; omega)
  have hst2 : (rb.steps : Int) = (ra.steps : Int) + 1 := by have := Hst.out; omega
  have ca2 := (F_a.out _ (D4.out _ (D5.out _ (D6.out _ HS6.out)))).cellv (i := 2) (v := .int .i64 (ra.steps : Int)) rfl
  have cb2 := (F_b.out _ HS6.out).cellv (i := 2) (v := .int .i64 (rb.steps : Int)) rfl
  rw [hst2] at cb2
  go_wp2_with fail
  go_ret
  exact ⟨rfl, (F_low.out _ (D1.out _ (D2.out _ (D3.out _ (D4.out _ (D5.out _ (D6.out _ HS6.out)))))))⟩
end Go.Proofs.Ytlglilmgklipdaa
