/- Lemmas for DirectUnusedP. -/
import Derived.Test.YtlglilmgklipdaaU14
namespace Go.Proofs.Ytlglilmgklipdaa
set_option linter.unusedVariables false
open Go.RowKit Go.Deep
theorem mk0_int (W : World) : (Instr.buildSlice 22 0 #[]).run Try.prog W = .ok (.slice (some ⟨W.heap.size, 0, none⟩) 0 0) (W.alloc (.cells #[] 3)) := by kernel_rfl
theorem mk1_int (x : Int) (W : World) : (Instr.buildSlice 22 1 #[(0, .int .i64 x)]).run Try.prog W = .ok (.slice (some ⟨W.heap.size, 0, none⟩) 1 1) (W.alloc (.cells #[.int .i64 x] 3)) := by kernel_rfl
theorem append_ints {W : World} {B n m cap : Nat} {v : Value} {xs : List Value} {A : Option Addr} {l : List Int} (hown : W.ownsRow B 3 1 v n xs) (hB : B ≤ W.heap.size) (hr : Rd W A (ints l)) (hm : m = l.length) (hA : A = none → m = 0) (hb : n + m ≤ 1000000) :
 ∃ v' W', (Builtin.append_ #[22, 22] 22 #[v, .slice A m cap]).run Try.prog W = .ok v' W' ∧ W'.ownsRow B 3 1 v' (n + m) (xs ++ ints l) ∧ W.grownBy W' v.ownBlock ∧ (v'.ownBlock = v.ownBlock ∨ v'.ownBlock = some W.heap.size) :=
 append_rd 22 3 (.int .i64 0) 1 8 Try.underlying22 info_int rfl (by decide) (by decide) hown hB hr (by simp [ints, hm]) (fun u hu => by simp only [ints, List.mem_map] at hu; obtain ⟨_, _, rfl⟩ := hu; rfl) hA hb
set_option maxRecDepth 100000 in
set_option maxHeartbeats 16000000 in
theorem directUnused_walk (p : PgV) (ty : Int) (htI : -9223372036854775808 ≤ ty ∧ ty ≤ 9223372036854775807) (g : IntsV) (fuel : Int) (hfI : -9223372036854775808 ≤ fuel ∧ fuel ≤ 9223372036854775807) (w : World) (hok : p.ok w) (hg : g.ok w) : Calls Try.prog 9 #[p.val, .int .i64 ty, g.val, .int .i64 fuel] w fun e w' => e = .returned (.bool true) ∧ Below w.heap.size w w' := by
 obtain ⟨aa, acap, args⟩ := g
 rw [show p.val = .agg p.cells from rfl, show (IntsV.mk aa acap args).val = .slice aa args.length acap from rfl]
 have Hin : Hid (∀ a ∈ args, InI a) := hg.all
 have HtyI : Hid (InI ty) := htI
 have hrd0 : Rd w aa (ints args) := hg.reads
 go_enter Try.func9, Try.ntmps9
 obtain ⟨S0, hSd⟩ : ∃ S : World → Prop, S = (fun W => Below w.heap.size w W ∧ p.ok W ∧ Rd W aa (ints args)) := ⟨_, rfl⟩
 have st0 : St S0 := by rw [hSd]; infer_instance
 have F_low : Hid (∀ W, S0 W → Below w.heap.size w W) := by show ∀ W, _; rw [hSd]; exact fun W h => h.1
 have F_ok : Hid (∀ W, S0 W → p.ok W) := by show ∀ W, _; rw [hSd]; exact fun W h => h.2.1
 have F_rda : Hid (∀ W, S0 W → Rd W aa (ints args)) := by show ∀ W, _; rw [hSd]; exact fun W h => h.2.2
 have HS0 : Hid (S0 w) := by show S0 w; rw [hSd]; exact ⟨Below.refl _ _, hok, hrd0⟩
 clear hSd
 clear hok hg hrd0
 go_wp2_with (refine at_box _ _ rfl ?_)
 refine Stop.to ?_
 refine wpList_box_gen rfl 25 _ rfl p.cells rfl ?_
 intro G_1 w_2 hG rG bG
 have hprev := st0.go HS0.out (bG.mono hG)
 obtain ⟨S1, hSd⟩ : ∃ S : World → Prop, S = (fun W => S0 W ∧ Row W G_1 25 p.cells) := ⟨_, rfl⟩
 have st1 : St S1 := by rw [hSd]; infer_instance
 have D1 : Hid (∀ W, S1 W → S0 W) := by show ∀ W, _; rw [hSd]; exact fun W h => h.1
 have F_P : Hid (∀ W, S1 W → Row W G_1 25 p.cells) := by show ∀ W, _; rw [hSd]; exact fun W h => h.2
 have HS1 : Hid (S1 w_2) := by show S1 w_2; rw [hSd]; exact ⟨hprev, rG⟩
 clear hSd
 clear hprev HS0 hG rG bG
 go_wp2_with fail
 refine (works17_any w_2).mono ?_
 rintro e w_3 ⟨rfl, bb⟩
 have hprev := st1.go HS1.out (bb)
 replace HS1 := Lib.hid hprev
 clear hprev bb
 go_wp2_with (refine wpList_load_row rfl 25 _ rfl G_1 rfl 25 p.cells (0, 0) _ (F_P.out _ HS1.out) Try.underlying25 rfl (by kernel_rfl) ?_)
 refine (few17_any p aa acap args.length fuel w_3).mono ?_
 rintro e w_4 ⟨rfl, bb⟩
 have hprev := st1.go HS1.out (bb)
 replace HS1 := Lib.hid hprev
 clear hprev bb
 generalize hq : fewZ p args.length fuel = q
 have Hq := Lib.hid hq
 clear hq
 cases q
 · skip
   go_wp2_with fail
   go_ret
   exact ⟨rfl, (F_low.out _ (D1.out _ HS1.out))⟩
 have hfz := fewZ_of Hq.out
 have Hbl := Lib.hid hfz.1
 have Hal := Lib.hid hfz.2.1
 have Hfu := Lib.hid hfz.2.2
 clear hfz Hq
 clear hfI htI
 by_cases h1 : ty < 0
 · skip
   go_wp2_with fail
   go_ret
   exact ⟨rfl, (F_low.out _ (D1.out _ HS1.out))⟩
 have h1p : 0 ≤ ty := by omega
 by_cases h2 : 9 < ty
 · skip
   go_wp2_with fail
   go_ret
   exact ⟨rfl, (F_low.out _ (D1.out _ HS1.out))⟩
 have h2p : ty ≤ 9 := by omega
 have cp1 := (F_P.out _ HS1.out).cellv (i := 1) (v := .slice p.va p.V.length p.vcap) rfl
 by_cases h3 : 12 ≤ p.V.length
 · have h3p : (12 : Int) ≤ (p.V.length : Int) := by omega
   go_wp2_with fail
   go_ret
   exact ⟨rfl, (F_low.out _ (D1.out _ HS1.out))⟩
 have h3p : (p.V.length : Int) < 12 := by omega
 go_wp2_with (refine wpList_load_row rfl 25 _ rfl G_1 rfl 25 p.cells (0, 0) _ (F_P.out _ HS1.out) Try.underlying25 rfl (by kernel_rfl) ?_)
 refine (dRunA p aa acap args fuel w_4 (by have := Hbl.out; omega) (by have := Hal.out; omega) (F_ok.out _ (D1.out _ HS1.out)) (F_rda.out _ (D1.out _ HS1.out)) Hin.out).mono ?_
 rintro e w_5 ⟨A_a, c_a, rfl, hrd, hle_a, hmx_a, hni_a, bb⟩
 have hprev := st1.go HS1.out (bb)
 obtain ⟨S2, hSd⟩ : ∃ S : World → Prop, S = (fun W => S1 W ∧ Rd3 ((runZ p args fuel).rv A_a c_a) W) := ⟨_, rfl⟩
 have st2 : St S2 := by rw [hSd]; infer_instance
 have D2 : Hid (∀ W, S2 W → S1 W) := by show ∀ W, _; rw [hSd]; exact fun W h => h.1
 have F_rd_a : Hid (∀ W, S2 W → Rd3 ((runZ p args fuel).rv A_a c_a) W) := by show ∀ W, _; rw [hSd]; exact fun W h => h.2
 have HS2 : Hid (S2 w_5) := by show S2 w_5; rw [hSd]; exact ⟨hprev, hrd⟩
 clear hSd
 clear hprev HS1 bb hrd
 clear cp1
 go_wp2_with (refine at_alloc _ rfl ?_)
 refine Stop.to ?_
 refine wpList_alloc_gen rfl 32 rfl _ _ zero_run2 rfl ?_
 intro G_6 w_7 hG rG bG
 go_wp2_with (refine at_store _ _ _ rfl ?_)
 refine Stop.to ?_
 refine wpList_store_gen rfl 32 _ _ rfl G_6 ((runZ p args fuel).rv A_a c_a).cells rfl rfl 32 _ rG (by kernel_rfl) rfl (rv_one _) ?_
 intro w_8 rH oH
 have bH : Below (w_5).heap.size w_5 w_8 := (bG.mono hG).trans (oH.below hG)
 have hprev := st2.go HS2.out (bH)
 obtain ⟨S3, hSd⟩ : ∃ S : World → Prop, S = (fun W => S2 W ∧ Row W G_6 32 ((runZ p args fuel).rv A_a c_a).cells) := ⟨_, rfl⟩
 have st3 : St S3 := by rw [hSd]; infer_instance
 have D3 : Hid (∀ W, S3 W → S2 W) := by show ∀ W, _; rw [hSd]; exact fun W h => h.1
 have F_a : Hid (∀ W, S3 W → Row W G_6 32 ((runZ p args fuel).rv A_a c_a).cells) := by show ∀ W, _; rw [hSd]; exact fun W h => h.2
 have HS3 : Hid (S3 w_8) := by show S3 w_8; rw [hSd]; exact ⟨hprev, rH⟩
 clear hSd
 clear hprev HS2 hG rG bG rH oH bH
 by_cases hc0 : checkZ p args.length fuel = 0
 rotate_left
 · have hc1 : (checkZ p args.length fuel != 0) = true := by simpa using hc0
   generalize checkZ p args.length fuel = cz at hc1
   clear hc0
   go_wp2_with fail
   go_ret
   exact ⟨rfl, (F_low.out _ (D1.out _ (D2.out _ (D3.out _ HS3.out))))⟩
 have HL : Hid (∀ q : PgV, q.params = p.params → q.V = p.V ++ [ty] → q.body = p.body → checkZ q args.length fuel = 0 ∧ SameS (runZ q args fuel) (runZ p args fuel)) := by
  show ∀ q, _
  intro q e1 e2 e3
  obtain ⟨t, v, s, hk⟩ := runZ_is (F_ok.out _ (D1.out _ (D2.out _ (D3.out _ HS3.out)))) Hin.out hc0
  exact run_plus hk hc0 ⟨h1p, h2p⟩ (by omega) e1 e2 e3
 have HVl : Hid (p.V.length < 12) := by show _ < _; omega
 rw [hc0]
 clear hc0 h1 h2 h3 h1p h2p h3p hle_a hmx_a hni_a
 obtain ⟨B, hBd⟩ : ∃ B, B = (w_8).heap.size := ⟨_, rfl⟩
 have HBd := Lib.hid hBd
 go_wp2_with fail
 obtain ⟨T, hTd⟩ : ∃ T : World → Prop, T = (fun W => Below B (w_8) W) := ⟨_, rfl⟩
 have t0 : ∀ W, T W → S3 W := by rw [hTd, hBd]; exact fun W h => st3.go HS3.out h
 have sz : ∀ W, T W → B ≤ W.heap.size := by rw [hTd, hBd]; exact fun W h => h.size
 have sB : ∀ W W', T W → Below B W W' → T W' := by rw [hTd]; exact fun W W' h b => h.trans b
 have tB : ∀ W, T W → Below (w_8).heap.size (w_8) W := by rw [hTd, hBd]; exact fun W h => h
 have stT : St T := ⟨fun h b => sB _ _ h (b.mono (sz _ h))⟩
 have hT5 : T (w_8) := by rw [hTd]; exact Below.refl _ _
 clear hTd hBd
 refine wp_cut (fun a W => ∃ u52 u55 u57 ga g8 cap8, T W ∧ Row W ga 25 #[.int .i64 p.params, .slice (some ⟨g8, 0, none⟩) (p.V.length + 1) cap8, .slice p.ba p.body.length p.bcap] ∧ W.ownsRow B 3 1 (.slice (some ⟨g8, 0, none⟩) (p.V.length + 1) cap8) (p.V.length + 1) (ints p.V ++ ints [ty]) ∧ a = { tmps := #[.agg p.cells, .int .i64 ty, .slice aa args.length acap, .int .i64 fuel, .pointer (some { block := G_1, off := 0 }), undef, undef, undef, .bool false, .bool true, .pointer (some { block := G_6, off := 0 }), .int .i64 0, .pointer (some ⟨ga, 0, none⟩), undef, undef, undef, undef, .bool true, .bool true, .bool false, .agg p.cells, .slice aa args.length acap, .int .i64 fuel, .bool true, .bool false, .bool false, .int .i64 ty, .bool (decide (ty < 0)), .bool (decide (ty < 0)), .bool (decide (ty < 0)), .int .i64 ty, .bool (decide (9 < ty)), .bool (decide (ty < 0) || decide (9 < ty)), .bool (decide (ty < 0) || decide (9 < ty)), .pointer (some { block := G_1, off := 1 }), .slice p.va p.V.length p.vcap, .int .i64 (p.V.length : Int), .bool (decide (12 ≤ (p.V.length : Int))), .bool (decide (ty < 0) || decide (9 < ty) || decide (12 ≤ (p.V.length : Int))), undef, .tuple #[.agg #[.int .i64 ((runZ p args fuel).out.getD (0, 0)).fst, .int .i64 ((runZ p args fuel).out.getD (0, 0)).snd, .int .i64 ((runZ p args fuel).steps : Int), .slice A_a (runZ p args fuel).evs.length c_a], .int .i64 0], .agg p.cells, .slice aa args.length acap, .int .i64 fuel, .tuple #[.agg #[.int .i64 ((runZ p args fuel).out.getD (0, 0)).fst, .int .i64 ((runZ p args fuel).out.getD (0, 0)).snd, .int .i64 ((runZ p args fuel).steps : Int), .slice A_a (runZ p args fuel).evs.length c_a], .int .i64 0], .agg #[.int .i64 ((runZ p args fuel).out.getD (0, 0)).fst, .int .i64 ((runZ p args fuel).out.getD (0, 0)).snd, .int .i64 ((runZ p args fuel).steps : Int), .slice A_a (runZ p args fuel).evs.length c_a], .int .i64 0, .int .i64 0, .bool false, undef, .pointer (some ⟨G_1, 0, none⟩), .int .i64 p.params, u52, .pointer (some ⟨G_1, 1, none⟩), .slice p.va p.V.length p.vcap, u55, .int .i64 ty, u57, .slice (some ⟨g8, 0, none⟩) (p.V.length + 1) cap8, .pointer (some ⟨G_1, 2, none⟩), .slice p.ba p.body.length p.bcap, .agg #[.int .i64 p.params, .slice (some ⟨g8, 0, none⟩) (p.V.length + 1) cap8, .slice p.ba p.body.length p.bcap], undef, undef, undef, undef, undef, undef, undef, undef, undef, undef, undef, undef, undef, undef, undef, undef, undef, undef, undef, undef, undef, undef, undef, undef, undef, undef, undef, undef, undef, undef], defers := [] }) ?rest ?first
 case first =>
  intro J K' hJ hK'
  have HJ := Lib.hid hJ
  have HK := Lib.hid hK'
  have hS := St.drew hT5
  have mk0 := mk0_int
  have mk1 := mk1_int ty
  have app5 : ∀ (W : World) {v : Value}, T W → W.ownsRow B 3 1 v 0 [] → ∃ v' W', (Builtin.append_ #[22, 22] 22 #[v, .slice p.va p.V.length p.vcap]).run Try.prog W = .ok v' W' ∧ W'.ownsRow B 3 1 v' p.V.length (ints p.V) ∧ W.grownBy W' v.ownBlock ∧ (v'.ownBlock = v.ownBlock ∨ v'.ownBlock = some W.heap.size) := by
   intro W v hT hown
   have hok := (F_ok.out _ (D1.out _ (D2.out _ (D3.out _ (t0 _ hT)))))
   obtain ⟨v', W', h1, h2, h3, h4⟩ := append_ints (cap := p.vcap) hown (sz _ hT) hok.vrd rfl (fun h => by have := hok.vnil h; have := hok.vlen; omega) (by have := HVl.out; omega)
   exact ⟨v', W', h1, by simpa using h2, h3, h4⟩
  have app8 : ∀ (W : World) (g7 : Nat) {v : Value}, W.ownsRow B 3 1 v p.V.length (ints p.V) → Row W g7 3 #[.int .i64 ty] → B ≤ W.heap.size → ∃ v' W', (Builtin.append_ #[22, 22] 22 #[v, .slice (some ⟨g7, 0, none⟩) 1 1]).run Try.prog W = .ok v' W' ∧ W'.ownsRow B 3 1 v' (p.V.length + 1) (ints p.V ++ ints [ty]) ∧ W.grownBy W' v.ownBlock ∧ (v'.ownBlock = v.ownBlock ∨ v'.ownBlock = some W.heap.size) := by
   intro W g7 v hown hrow hB
   exact append_ints (cap := 1) hown hB (rd_row (cs := ints [ty]) hrow) rfl (fun h => by cases h) (by have := HVl.out; omega)
  clear hJ hK' hT5
  try refine wp_region_noPanic ?_
  refine wp_region_held (S := T) (by kernel_rfl) ?_
  simp only [List.size_toArray, List.length_cons, List.length_nil, Nat.reduceAdd, Array.replicate_succ, Array.replicate_zero, List.push_toArray, List.nil_append, List.cons_append]
  show wpAnyH _ _ _ _ _ _ _ _ (w_8).drew
  generalize (w_8).drew = w_t0 at hS ⊢
  (refine takeH (i := 0) (v := .pointer (some ⟨G_1, 0, none⟩)) rfl (by kernel_rfl) (by kernel_rfl) (by kernel_rfl) (fun _ _ _ h => h) (yields_val rfl (fun W hW => by ((go_simp)))) (by assumption) ?_; simp only [Act.put, List.setIfInBounds_toArray, List.set_cons_zero, List.set_cons_succ])
  (refine takeH (i := 1) (v := .int .i64 p.params) rfl (by kernel_rfl) (by kernel_rfl) (by kernel_rfl) (fun _ _ _ h => h) (yields_val rfl (fun W hW => by ((have h := ((F_P.out _ (D2.out _ (D3.out _ (t0 _ hW))))).cellv (i := 0) (v := .int .i64 p.params) rfl; go_simp)))) (by assumption) ?_; simp only [Act.put, List.setIfInBounds_toArray, List.set_cons_zero, List.set_cons_succ])
  (refine takeH (i := 3) (v := .pointer (some ⟨G_1, 1, none⟩)) rfl (by kernel_rfl) (by kernel_rfl) (by kernel_rfl) (fun _ _ _ h => h) (yields_val rfl (fun W hW => by ((go_simp)))) (by assumption) ?_; simp only [Act.put, List.setIfInBounds_toArray, List.set_cons_zero, List.set_cons_succ])
  (refine takeH (i := 4) (v := .slice p.va p.V.length p.vcap) rfl (by kernel_rfl) (by kernel_rfl) (by kernel_rfl) (fun _ _ _ h => h) (yields_val rfl (fun W hW => by ((have h := ((F_P.out _ (D2.out _ (D3.out _ (t0 _ hW))))).cellv (i := 1) (v := .slice p.va p.V.length p.vcap) rfl; go_simp)))) (by assumption) ?_; simp only [Act.put, List.setIfInBounds_toArray, List.set_cons_zero, List.set_cons_succ])
  (refine takeH (i := 6) (v := .int .i64 ty) rfl (by kernel_rfl) (by kernel_rfl) (by kernel_rfl) (fun _ _ _ h => h) (yields_val rfl (fun W hW => by ((go_simp)))) (by assumption) ?_; simp only [Act.put, List.setIfInBounds_toArray, List.set_cons_zero, List.set_cons_succ])
  (refine takeH (i := 9) (v := .pointer (some ⟨G_1, 2, none⟩)) rfl (by kernel_rfl) (by kernel_rfl) (by kernel_rfl) (fun _ _ _ h => h) (yields_val rfl (fun W hW => by ((go_simp)))) (by assumption) ?_; simp only [Act.put, List.setIfInBounds_toArray, List.set_cons_zero, List.set_cons_succ])
  (refine takeH (i := 10) (v := .slice p.ba p.body.length p.bcap) rfl (by kernel_rfl) (by kernel_rfl) (by kernel_rfl) (fun _ _ _ h => h) (yields_val rfl (fun W hW => by ((have h := ((F_P.out _ (D2.out _ (D3.out _ (t0 _ hW))))).cellv (i := 2) (v := .slice p.ba p.body.length p.bcap) rfl; go_simp)))) (by assumption) ?_; simp only [Act.put, List.setIfInBounds_toArray, List.set_cons_zero, List.set_cons_succ])
  refine wpAnyH_all (rs := [2, 7, 12]) (by kernel_rfl) (by simp) (fun i hi => ?_)
  simp only [List.mem_cons, List.not_mem_nil, or_false] at hi
  rcases hi with rfl | rfl | rfl
  · skip
    refine wpOp_plain rfl rfl (fun K2 hK2 => ?_)
    refine wp_res_gen (.slice (some ⟨w_t0.heap.size, 0, none⟩) 0 0) (w1 := w_t0.alloc (.cells #[] 3)) (by exact run_exec_bslice [] rfl (mk0 w_t0)) ?_
    refine hK2 _ _ ?_
    clear hK2 K2
    simp only [Act.put, List.setIfInBounds_toArray, List.set_cons_zero, List.set_cons_succ]
    have bw := (Below.refl w_t0.heap.size w_t0).alloc (Nat.le_refl _) (.cells #[] 3)
    have lw : B ≤ w_t0.heap.size := sz _ hS
    have nr := Row.new w_t0 3 #[]
    obtain ⟨g2, hg2⟩ : ∃ g, g = w_t0.heap.size := ⟨_, rfl⟩
    have own2 : (w_t0.alloc (.cells #[] 3)).ownsRow B 3 1 (.slice (some ⟨g2, 0, none⟩) 0 0) 0 [] := by rw [hg2]; exact own_emptyS lw nr
    have hS := sB _ _ hS (bw.mono lw)
    rw [← hg2]
    have r2l : g2 < (w_t0.alloc (.cells #[] 3)).heap.size := by rw [hg2]; simp
    clear nr bw lw hg2
    generalize w_t0.alloc (.cells #[] 3) = w_t1 at *
    refine ⟨hS, ?_⟩
    refine wpAnyH_all (rs := [5, 7, 12]) (by kernel_rfl) (by simp) (fun i hi => ?_)
    simp only [List.mem_cons, List.not_mem_nil, or_false] at hi
    rcases hi with rfl | rfl | rfl
    · skip
      refine wpOp_plain rfl rfl (fun K2 hK2 => ?_)
      obtain ⟨v5, w_t2, hrun, own5, hgr, hat⟩ := app5 w_t1 hS own2
      refine wp_res_gen v5 (w1 := w_t2) (by exact run_exec_append rfl hrun) ?_
      refine hK2 _ _ ?_
      clear hK2 K2
      simp only [Act.put, List.setIfInBounds_toArray, List.set_cons_zero, List.set_cons_succ]
      have lw : B ≤ w_t1.heap.size := sz _ hS
      have bw := below_grown_own (Below.refl B w_t1) own2 hgr lw (Nat.le_refl _)
      have hS := sB _ _ hS bw
      clear bw lw hrun hgr hat own2
      refine ⟨hS, ?_⟩
      refine wpAnyH_all (rs := [7, 12]) (by kernel_rfl) (by simp) (fun i hi => ?_)
      simp only [List.mem_cons, List.not_mem_nil, or_false] at hi
      rcases hi with rfl | rfl
      · skip
        refine wpOp_plain rfl rfl (fun K2 hK2 => ?_)
        refine wp_res_gen (.slice (some ⟨w_t2.heap.size, 0, none⟩) 1 1) (w1 := w_t2.alloc (.cells #[.int .i64 ty] 3)) (by exact run_exec_bslice [(0, .tmp 56)] rfl (mk1 w_t2)) ?_
        refine hK2 _ _ ?_
        clear hK2 K2
        simp only [Act.put, List.setIfInBounds_toArray, List.set_cons_zero, List.set_cons_succ]
        have bw := (Below.refl w_t2.heap.size w_t2).alloc (Nat.le_refl _) (.cells #[.int .i64 ty] 3)
        have lw : B ≤ w_t2.heap.size := sz _ hS
        have nr := Row.new w_t2 3 #[.int .i64 ty]
        obtain ⟨g7, hg7⟩ : ∃ g, g = w_t2.heap.size := ⟨_, rfl⟩
        have ne57 : v5.ownBlock ≠ some g7 := fun e => by have := (own5.lt _ e).2; omega
        have own5 := own_below own5 bw
        have r7 : Row (w_t2.alloc (.cells #[.int .i64 ty] 3)) g7 3 #[.int .i64 ty] := by rw [hg7]; exact nr
        have hS := sB _ _ hS (bw.mono lw)
        rw [← hg7]
        clear nr bw lw hg7
        generalize w_t2.alloc (.cells #[.int .i64 ty] 3) = w_t3 at *
        refine ⟨hS, ?_⟩
        refine wpAnyH_all (rs := [8, 12]) (by kernel_rfl) (by simp) (fun i hi => ?_)
        simp only [List.mem_cons, List.not_mem_nil, or_false] at hi
        rcases hi with rfl | rfl
        · skip
          refine wpOp_plain rfl rfl (fun K2 hK2 => ?_)
          obtain ⟨v8, w_t4, hrun, own8, hgr, hat⟩ := app8 w_t3 g7 own5 r7 (sz _ hS)
          refine wp_res_gen v8 (w1 := w_t4) (by exact run_exec_append rfl hrun) ?_
          refine hK2 _ _ ?_
          clear hK2 K2
          simp only [Act.put, List.setIfInBounds_toArray, List.set_cons_zero, List.set_cons_succ]
          have lw : B ≤ w_t3.heap.size := sz _ hS
          have bw := below_grown_own (Below.refl B w_t3) own5 hgr lw (Nat.le_refl _)
          have hS := sB _ _ hS bw
          clear bw lw hrun hgr hat own5
          clear r7 ne57
          refine ⟨hS, ?_⟩
          obtain ⟨g8, cap8, rfl⟩ := own_formS own8
          (refine takeH (i := 11) (v := .agg #[.int .i64 p.params, .slice (some ⟨g8, 0, none⟩) (p.V.length + 1) cap8, .slice p.ba p.body.length p.bcap]) rfl (by kernel_rfl) (by kernel_rfl) (by kernel_rfl) (fun _ _ _ h => h) (yields_val rfl (fun W hW => by (go_simp))) (by assumption) ?_; simp only [Act.put, List.setIfInBounds_toArray, List.set_cons_zero, List.set_cons_succ])
          (refine wpAnyH_all (rs := [12]) (by kernel_rfl) (by simp) (fun i hi => ?_); obtain rfl : i = 12 := by simpa using hi)
          refine wpOp_plain rfl rfl (fun K2 hK2 => ?_)
          refine wp_alloc_gen 25 rfl _ _ zero_prog rfl ?_
          intro ga w_t5 hga ra bx
          refine hK2 _ _ ?_
          clear hK2 K2
          simp only [Act.put, List.setIfInBounds_toArray, List.set_cons_zero, List.set_cons_succ]
          have bw := bx.mono hga
          have lw : B ≤ w_t4.heap.size := sz _ hS
          have la : B ≤ ga := Nat.le_trans lw hga
          have own8 := own_below own8 bw
          have hS := sB _ _ hS (bw.mono lw)
          clear bw lw bx hga
          refine ⟨hS, ?_⟩
          (refine wpAnyH_all (rs := [13]) (by kernel_rfl) (by simp) (fun i hi => ?_); obtain rfl : i = 13 := by simpa using hi)
          refine wpOp_plain rfl rfl (fun K2 hK2 => ?_)
          refine wp_store_gen 25 (.tmp 12) (.tmp 61) rfl ga #[.int .i64 p.params, .slice (some ⟨g8, 0, none⟩) (p.V.length + 1) cap8, .slice p.ba p.body.length p.bcap] rfl rfl 25 _ ra (by kernel_rfl) rfl (by simp [Value.oneCell']) ?_
          intro wz rz oz
          refine hK2 _ _ ?_
          clear hK2 K2
          simp only [Act.put, List.setIfInBounds_toArray, List.set_cons_zero, List.set_cons_succ]
          have hS := sB _ _ hS (oz.below la)
          have own8 := own_only own8 oz (own_ne own8 ra (by decide))
          refine ⟨hS, wpAnyH_done (by kernel_rfl) ?_ _⟩
          exact HK.out _ _ (Met.intro (HJ.out _ _ ⟨_, _, _, _, _, _, hS, rz, own8, rfl⟩))
        · skip
          refine wpOp_plain rfl rfl (fun K2 hK2 => ?_)
          refine wp_alloc_gen 25 rfl _ _ zero_prog rfl ?_
          intro ga w_t4 hga ra bx
          refine hK2 _ _ ?_
          clear hK2 K2
          simp only [Act.put, List.setIfInBounds_toArray, List.set_cons_zero, List.set_cons_succ]
          have bw := bx.mono hga
          have lw : B ≤ w_t3.heap.size := sz _ hS
          have la : B ≤ ga := Nat.le_trans lw hga
          have own5 := own_below own5 bw
          have r7 := r7.below bw r7.lt
          have hS := sB _ _ hS (bw.mono lw)
          clear bw lw bx hga
          refine ⟨hS, ?_⟩
          (refine wpAnyH_all (rs := [8]) (by kernel_rfl) (by simp) (fun i hi => ?_); obtain rfl : i = 8 := by simpa using hi)
          refine wpOp_plain rfl rfl (fun K2 hK2 => ?_)
          obtain ⟨v8, w_t5, hrun, own8, hgr, hat⟩ := app8 w_t4 g7 own5 r7 (sz _ hS)
          refine wp_res_gen v8 (w1 := w_t5) (by exact run_exec_append rfl hrun) ?_
          refine hK2 _ _ ?_
          clear hK2 K2
          simp only [Act.put, List.setIfInBounds_toArray, List.set_cons_zero, List.set_cons_succ]
          have lw : B ≤ w_t4.heap.size := sz _ hS
          have bw := below_grown_own (Below.refl B w_t4) own5 hgr lw (Nat.le_refl _)
          have ra := ra.grown hgr (own_ne own5 ra (by decide))
          have hS := sB _ _ hS bw
          clear bw lw hrun hgr hat own5
          clear r7 ne57
          refine ⟨hS, ?_⟩
          obtain ⟨g8, cap8, rfl⟩ := own_formS own8
          (refine takeH (i := 11) (v := .agg #[.int .i64 p.params, .slice (some ⟨g8, 0, none⟩) (p.V.length + 1) cap8, .slice p.ba p.body.length p.bcap]) rfl (by kernel_rfl) (by kernel_rfl) (by kernel_rfl) (fun _ _ _ h => h) (yields_val rfl (fun W hW => by (go_simp))) (by assumption) ?_; simp only [Act.put, List.setIfInBounds_toArray, List.set_cons_zero, List.set_cons_succ])
          (refine wpAnyH_all (rs := [13]) (by kernel_rfl) (by simp) (fun i hi => ?_); obtain rfl : i = 13 := by simpa using hi)
          refine wpOp_plain rfl rfl (fun K2 hK2 => ?_)
          refine wp_store_gen 25 (.tmp 12) (.tmp 61) rfl ga #[.int .i64 p.params, .slice (some ⟨g8, 0, none⟩) (p.V.length + 1) cap8, .slice p.ba p.body.length p.bcap] rfl rfl 25 _ ra (by kernel_rfl) rfl (by simp [Value.oneCell']) ?_
          intro wz rz oz
          refine hK2 _ _ ?_
          clear hK2 K2
          simp only [Act.put, List.setIfInBounds_toArray, List.set_cons_zero, List.set_cons_succ]
          have hS := sB _ _ hS (oz.below la)
          have own8 := own_only own8 oz (own_ne own8 ra (by decide))
          refine ⟨hS, wpAnyH_done (by kernel_rfl) ?_ _⟩
          exact HK.out _ _ (Met.intro (HJ.out _ _ ⟨_, _, _, _, _, _, hS, rz, own8, rfl⟩))
      · skip
        refine wpOp_plain rfl rfl (fun K2 hK2 => ?_)
        refine wp_alloc_gen 25 rfl _ _ zero_prog rfl ?_
        intro ga w_t3 hga ra bx
        refine hK2 _ _ ?_
        clear hK2 K2
        simp only [Act.put, List.setIfInBounds_toArray, List.set_cons_zero, List.set_cons_succ]
        have bw := bx.mono hga
        have lw : B ≤ w_t2.heap.size := sz _ hS
        have la : B ≤ ga := Nat.le_trans lw hga
        have own5 := own_below own5 bw
        have hS := sB _ _ hS (bw.mono lw)
        clear bw lw bx hga
        refine ⟨hS, ?_⟩
        (refine wpAnyH_all (rs := [7]) (by kernel_rfl) (by simp) (fun i hi => ?_); obtain rfl : i = 7 := by simpa using hi)
        refine wpOp_plain rfl rfl (fun K2 hK2 => ?_)
        refine wp_res_gen (.slice (some ⟨w_t3.heap.size, 0, none⟩) 1 1) (w1 := w_t3.alloc (.cells #[.int .i64 ty] 3)) (by exact run_exec_bslice [(0, .tmp 56)] rfl (mk1 w_t3)) ?_
        refine hK2 _ _ ?_
        clear hK2 K2
        simp only [Act.put, List.setIfInBounds_toArray, List.set_cons_zero, List.set_cons_succ]
        have bw := (Below.refl w_t3.heap.size w_t3).alloc (Nat.le_refl _) (.cells #[.int .i64 ty] 3)
        have lw : B ≤ w_t3.heap.size := sz _ hS
        have nr := Row.new w_t3 3 #[.int .i64 ty]
        obtain ⟨g7, hg7⟩ : ∃ g, g = w_t3.heap.size := ⟨_, rfl⟩
        have ne57 : v5.ownBlock ≠ some g7 := fun e => by have := (own5.lt _ e).2; omega
        have own5 := own_below own5 bw
        have ra := ra.below bw ra.lt
        have r7 : Row (w_t3.alloc (.cells #[.int .i64 ty] 3)) g7 3 #[.int .i64 ty] := by rw [hg7]; exact nr
        have hS := sB _ _ hS (bw.mono lw)
        rw [← hg7]
        clear nr bw lw hg7
        generalize w_t3.alloc (.cells #[.int .i64 ty] 3) = w_t4 at *
        refine ⟨hS, ?_⟩
        (refine wpAnyH_all (rs := [8]) (by kernel_rfl) (by simp) (fun i hi => ?_); obtain rfl : i = 8 := by simpa using hi)
        refine wpOp_plain rfl rfl (fun K2 hK2 => ?_)
        obtain ⟨v8, w_t5, hrun, own8, hgr, hat⟩ := app8 w_t4 g7 own5 r7 (sz _ hS)
        refine wp_res_gen v8 (w1 := w_t5) (by exact run_exec_append rfl hrun) ?_
        refine hK2 _ _ ?_
        clear hK2 K2
        simp only [Act.put, List.setIfInBounds_toArray, List.set_cons_zero, List.set_cons_succ]
        have lw : B ≤ w_t4.heap.size := sz _ hS
        have bw := below_grown_own (Below.refl B w_t4) own5 hgr lw (Nat.le_refl _)
        have ra := ra.grown hgr (own_ne own5 ra (by decide))
        have hS := sB _ _ hS bw
        clear bw lw hrun hgr hat own5
        clear r7 ne57
        refine ⟨hS, ?_⟩
        obtain ⟨g8, cap8, rfl⟩ := own_formS own8
        (refine takeH (i := 11) (v := .agg #[.int .i64 p.params, .slice (some ⟨g8, 0, none⟩) (p.V.length + 1) cap8, .slice p.ba p.body.length p.bcap]) rfl (by kernel_rfl) (by kernel_rfl) (by kernel_rfl) (fun _ _ _ h => h) (yields_val rfl (fun W hW => by (go_simp))) (by assumption) ?_; simp only [Act.put, List.setIfInBounds_toArray, List.set_cons_zero, List.set_cons_succ])
        (refine wpAnyH_all (rs := [13]) (by kernel_rfl) (by simp) (fun i hi => ?_); obtain rfl : i = 13 := by simpa using hi)
        refine wpOp_plain rfl rfl (fun K2 hK2 => ?_)
        refine wp_store_gen 25 (.tmp 12) (.tmp 61) rfl ga #[.int .i64 p.params, .slice (some ⟨g8, 0, none⟩) (p.V.length + 1) cap8, .slice p.ba p.body.length p.bcap] rfl rfl 25 _ ra (by kernel_rfl) rfl (by simp [Value.oneCell']) ?_
        intro wz rz oz
        refine hK2 _ _ ?_
        clear hK2 K2
        simp only [Act.put, List.setIfInBounds_toArray, List.set_cons_zero, List.set_cons_succ]
        have hS := sB _ _ hS (oz.below la)
        have own8 := own_only own8 oz (own_ne own8 ra (by decide))
        refine ⟨hS, wpAnyH_done (by kernel_rfl) ?_ _⟩
        exact HK.out _ _ (Met.intro (HJ.out _ _ ⟨_, _, _, _, _, _, hS, rz, own8, rfl⟩))
    · skip
      refine wpOp_plain rfl rfl (fun K2 hK2 => ?_)
      refine wp_res_gen (.slice (some ⟨w_t1.heap.size, 0, none⟩) 1 1) (w1 := w_t1.alloc (.cells #[.int .i64 ty] 3)) (by exact run_exec_bslice [(0, .tmp 56)] rfl (mk1 w_t1)) ?_
      refine hK2 _ _ ?_
      clear hK2 K2
      simp only [Act.put, List.setIfInBounds_toArray, List.set_cons_zero, List.set_cons_succ]
      have bw := (Below.refl w_t1.heap.size w_t1).alloc (Nat.le_refl _) (.cells #[.int .i64 ty] 3)
      have lw : B ≤ w_t1.heap.size := sz _ hS
      have nr := Row.new w_t1 3 #[.int .i64 ty]
      obtain ⟨g7, hg7⟩ : ∃ g, g = w_t1.heap.size := ⟨_, rfl⟩
      have ne27 : g2 ≠ g7 := by have := r2l; omega
      have own2 := own_below own2 bw
      have r7 : Row (w_t1.alloc (.cells #[.int .i64 ty] 3)) g7 3 #[.int .i64 ty] := by rw [hg7]; exact nr
      have hS := sB _ _ hS (bw.mono lw)
      rw [← hg7]
      clear nr bw lw hg7
      generalize w_t1.alloc (.cells #[.int .i64 ty] 3) = w_t2 at *
      refine ⟨hS, ?_⟩
      refine wpAnyH_all (rs := [5, 12]) (by kernel_rfl) (by simp) (fun i hi => ?_)
      simp only [List.mem_cons, List.not_mem_nil, or_false] at hi
      rcases hi with rfl | rfl
      · skip
        refine wpOp_plain rfl rfl (fun K2 hK2 => ?_)
        obtain ⟨v5, w_t3, hrun, own5, hgr, hat⟩ := app5 w_t2 hS own2
        refine wp_res_gen v5 (w1 := w_t3) (by exact run_exec_append rfl hrun) ?_
        refine hK2 _ _ ?_
        clear hK2 K2
        simp only [Act.put, List.setIfInBounds_toArray, List.set_cons_zero, List.set_cons_succ]
        have lw : B ≤ w_t2.heap.size := sz _ hS
        have bw := below_grown_own (Below.refl B w_t2) own2 hgr lw (Nat.le_refl _)
        have ne57 : v5.ownBlock ≠ some g7 := by rcases hat with h | h <;> rw [h] <;> intro e <;> simp [Value.ownBlock] at e <;> (have := r7.lt; omega)
        have r7 := r7.grown hgr (by simp [Value.ownBlock]; exact ne27)
        have hS := sB _ _ hS bw
        clear bw lw hrun hgr hat own2
        refine ⟨hS, ?_⟩
        refine wpAnyH_all (rs := [8, 12]) (by kernel_rfl) (by simp) (fun i hi => ?_)
        simp only [List.mem_cons, List.not_mem_nil, or_false] at hi
        rcases hi with rfl | rfl
        · skip
          refine wpOp_plain rfl rfl (fun K2 hK2 => ?_)
          obtain ⟨v8, w_t4, hrun, own8, hgr, hat⟩ := app8 w_t3 g7 own5 r7 (sz _ hS)
          refine wp_res_gen v8 (w1 := w_t4) (by exact run_exec_append rfl hrun) ?_
          refine hK2 _ _ ?_
          clear hK2 K2
          simp only [Act.put, List.setIfInBounds_toArray, List.set_cons_zero, List.set_cons_succ]
          have lw : B ≤ w_t3.heap.size := sz _ hS
          have bw := below_grown_own (Below.refl B w_t3) own5 hgr lw (Nat.le_refl _)
          have hS := sB _ _ hS bw
          clear bw lw hrun hgr hat own5
          clear r7 ne57
          refine ⟨hS, ?_⟩
          obtain ⟨g8, cap8, rfl⟩ := own_formS own8
          (refine takeH (i := 11) (v := .agg #[.int .i64 p.params, .slice (some ⟨g8, 0, none⟩) (p.V.length + 1) cap8, .slice p.ba p.body.length p.bcap]) rfl (by kernel_rfl) (by kernel_rfl) (by kernel_rfl) (fun _ _ _ h => h) (yields_val rfl (fun W hW => by (go_simp))) (by assumption) ?_; simp only [Act.put, List.setIfInBounds_toArray, List.set_cons_zero, List.set_cons_succ])
          (refine wpAnyH_all (rs := [12]) (by kernel_rfl) (by simp) (fun i hi => ?_); obtain rfl : i = 12 := by simpa using hi)
          refine wpOp_plain rfl rfl (fun K2 hK2 => ?_)
          refine wp_alloc_gen 25 rfl _ _ zero_prog rfl ?_
          intro ga w_t5 hga ra bx
          refine hK2 _ _ ?_
          clear hK2 K2
          simp only [Act.put, List.setIfInBounds_toArray, List.set_cons_zero, List.set_cons_succ]
          have bw := bx.mono hga
          have lw : B ≤ w_t4.heap.size := sz _ hS
          have la : B ≤ ga := Nat.le_trans lw hga
          have own8 := own_below own8 bw
          have hS := sB _ _ hS (bw.mono lw)
          clear bw lw bx hga
          refine ⟨hS, ?_⟩
          (refine wpAnyH_all (rs := [13]) (by kernel_rfl) (by simp) (fun i hi => ?_); obtain rfl : i = 13 := by simpa using hi)
          refine wpOp_plain rfl rfl (fun K2 hK2 => ?_)
          refine wp_store_gen 25 (.tmp 12) (.tmp 61) rfl ga #[.int .i64 p.params, .slice (some ⟨g8, 0, none⟩) (p.V.length + 1) cap8, .slice p.ba p.body.length p.bcap] rfl rfl 25 _ ra (by kernel_rfl) rfl (by simp [Value.oneCell']) ?_
          intro wz rz oz
          refine hK2 _ _ ?_
          clear hK2 K2
          simp only [Act.put, List.setIfInBounds_toArray, List.set_cons_zero, List.set_cons_succ]
          have hS := sB _ _ hS (oz.below la)
          have own8 := own_only own8 oz (own_ne own8 ra (by decide))
          refine ⟨hS, wpAnyH_done (by kernel_rfl) ?_ _⟩
          exact HK.out _ _ (Met.intro (HJ.out _ _ ⟨_, _, _, _, _, _, hS, rz, own8, rfl⟩))
        · skip
          refine wpOp_plain rfl rfl (fun K2 hK2 => ?_)
          refine wp_alloc_gen 25 rfl _ _ zero_prog rfl ?_
          intro ga w_t4 hga ra bx
          refine hK2 _ _ ?_
          clear hK2 K2
          simp only [Act.put, List.setIfInBounds_toArray, List.set_cons_zero, List.set_cons_succ]
          have bw := bx.mono hga
          have lw : B ≤ w_t3.heap.size := sz _ hS
          have la : B ≤ ga := Nat.le_trans lw hga
          have own5 := own_below own5 bw
          have r7 := r7.below bw r7.lt
          have hS := sB _ _ hS (bw.mono lw)
          clear bw lw bx hga
          refine ⟨hS, ?_⟩
          (refine wpAnyH_all (rs := [8]) (by kernel_rfl) (by simp) (fun i hi => ?_); obtain rfl : i = 8 := by simpa using hi)
          refine wpOp_plain rfl rfl (fun K2 hK2 => ?_)
          obtain ⟨v8, w_t5, hrun, own8, hgr, hat⟩ := app8 w_t4 g7 own5 r7 (sz _ hS)
          refine wp_res_gen v8 (w1 := w_t5) (by exact run_exec_append rfl hrun) ?_
          refine hK2 _ _ ?_
          clear hK2 K2
          simp only [Act.put, List.setIfInBounds_toArray, List.set_cons_zero, List.set_cons_succ]
          have lw : B ≤ w_t4.heap.size := sz _ hS
          have bw := below_grown_own (Below.refl B w_t4) own5 hgr lw (Nat.le_refl _)
          have ra := ra.grown hgr (own_ne own5 ra (by decide))
          have hS := sB _ _ hS bw
          clear bw lw hrun hgr hat own5
          clear r7 ne57
          refine ⟨hS, ?_⟩
          obtain ⟨g8, cap8, rfl⟩ := own_formS own8
          (refine takeH (i := 11) (v := .agg #[.int .i64 p.params, .slice (some ⟨g8, 0, none⟩) (p.V.length + 1) cap8, .slice p.ba p.body.length p.bcap]) rfl (by kernel_rfl) (by kernel_rfl) (by kernel_rfl) (fun _ _ _ h => h) (yields_val rfl (fun W hW => by (go_simp))) (by assumption) ?_; simp only [Act.put, List.setIfInBounds_toArray, List.set_cons_zero, List.set_cons_succ])
          (refine wpAnyH_all (rs := [13]) (by kernel_rfl) (by simp) (fun i hi => ?_); obtain rfl : i = 13 := by simpa using hi)
          refine wpOp_plain rfl rfl (fun K2 hK2 => ?_)
          refine wp_store_gen 25 (.tmp 12) (.tmp 61) rfl ga #[.int .i64 p.params, .slice (some ⟨g8, 0, none⟩) (p.V.length + 1) cap8, .slice p.ba p.body.length p.bcap] rfl rfl 25 _ ra (by kernel_rfl) rfl (by simp [Value.oneCell']) ?_
          intro wz rz oz
          refine hK2 _ _ ?_
          clear hK2 K2
          simp only [Act.put, List.setIfInBounds_toArray, List.set_cons_zero, List.set_cons_succ]
          have hS := sB _ _ hS (oz.below la)
          have own8 := own_only own8 oz (own_ne own8 ra (by decide))
          refine ⟨hS, wpAnyH_done (by kernel_rfl) ?_ _⟩
          exact HK.out _ _ (Met.intro (HJ.out _ _ ⟨_, _, _, _, _, _, hS, rz, own8, rfl⟩))
      · skip
        refine wpOp_plain rfl rfl (fun K2 hK2 => ?_)
        refine wp_alloc_gen 25 rfl _ _ zero_prog rfl ?_
        intro ga w_t3 hga ra bx
        refine hK2 _ _ ?_
        clear hK2 K2
        simp only [Act.put, List.setIfInBounds_toArray, List.set_cons_zero, List.set_cons_succ]
        have bw := bx.mono hga
        have lw : B ≤ w_t2.heap.size := sz _ hS
        have la : B ≤ ga := Nat.le_trans lw hga
        have own2 := own_below own2 bw
        have r7 := r7.below bw r7.lt
        have hS := sB _ _ hS (bw.mono lw)
        clear bw lw bx hga
        refine ⟨hS, ?_⟩
        (refine wpAnyH_all (rs := [5]) (by kernel_rfl) (by simp) (fun i hi => ?_); obtain rfl : i = 5 := by simpa using hi)
        refine wpOp_plain rfl rfl (fun K2 hK2 => ?_)
        obtain ⟨v5, w_t4, hrun, own5, hgr, hat⟩ := app5 w_t3 hS own2
        refine wp_res_gen v5 (w1 := w_t4) (by exact run_exec_append rfl hrun) ?_
        refine hK2 _ _ ?_
        clear hK2 K2
        simp only [Act.put, List.setIfInBounds_toArray, List.set_cons_zero, List.set_cons_succ]
        have lw : B ≤ w_t3.heap.size := sz _ hS
        have bw := below_grown_own (Below.refl B w_t3) own2 hgr lw (Nat.le_refl _)
        have ra := ra.grown hgr (own_ne own2 ra (by decide))
        have ne57 : v5.ownBlock ≠ some g7 := by rcases hat with h | h <;> rw [h] <;> intro e <;> simp [Value.ownBlock] at e <;> (have := r7.lt; omega)
        have r7 := r7.grown hgr (by simp [Value.ownBlock]; exact ne27)
        have hS := sB _ _ hS bw
        clear bw lw hrun hgr hat own2
        refine ⟨hS, ?_⟩
        (refine wpAnyH_all (rs := [8]) (by kernel_rfl) (by simp) (fun i hi => ?_); obtain rfl : i = 8 := by simpa using hi)
        refine wpOp_plain rfl rfl (fun K2 hK2 => ?_)
        obtain ⟨v8, w_t5, hrun, own8, hgr, hat⟩ := app8 w_t4 g7 own5 r7 (sz _ hS)
        refine wp_res_gen v8 (w1 := w_t5) (by exact run_exec_append rfl hrun) ?_
        refine hK2 _ _ ?_
        clear hK2 K2
        simp only [Act.put, List.setIfInBounds_toArray, List.set_cons_zero, List.set_cons_succ]
        have lw : B ≤ w_t4.heap.size := sz _ hS
        have bw := below_grown_own (Below.refl B w_t4) own5 hgr lw (Nat.le_refl _)
        have ra := ra.grown hgr (own_ne own5 ra (by decide))
        have hS := sB _ _ hS bw
        clear bw lw hrun hgr hat own5
        clear r7 ne57
        refine ⟨hS, ?_⟩
        obtain ⟨g8, cap8, rfl⟩ := own_formS own8
        (refine takeH (i := 11) (v := .agg #[.int .i64 p.params, .slice (some ⟨g8, 0, none⟩) (p.V.length + 1) cap8, .slice p.ba p.body.length p.bcap]) rfl (by kernel_rfl) (by kernel_rfl) (by kernel_rfl) (fun _ _ _ h => h) (yields_val rfl (fun W hW => by (go_simp))) (by assumption) ?_; simp only [Act.put, List.setIfInBounds_toArray, List.set_cons_zero, List.set_cons_succ])
        (refine wpAnyH_all (rs := [13]) (by kernel_rfl) (by simp) (fun i hi => ?_); obtain rfl : i = 13 := by simpa using hi)
        refine wpOp_plain rfl rfl (fun K2 hK2 => ?_)
        refine wp_store_gen 25 (.tmp 12) (.tmp 61) rfl ga #[.int .i64 p.params, .slice (some ⟨g8, 0, none⟩) (p.V.length + 1) cap8, .slice p.ba p.body.length p.bcap] rfl rfl 25 _ ra (by kernel_rfl) rfl (by simp [Value.oneCell']) ?_
        intro wz rz oz
        refine hK2 _ _ ?_
        clear hK2 K2
        simp only [Act.put, List.setIfInBounds_toArray, List.set_cons_zero, List.set_cons_succ]
        have hS := sB _ _ hS (oz.below la)
        have own8 := own_only own8 oz (own_ne own8 ra (by decide))
        refine ⟨hS, wpAnyH_done (by kernel_rfl) ?_ _⟩
        exact HK.out _ _ (Met.intro (HJ.out _ _ ⟨_, _, _, _, _, _, hS, rz, own8, rfl⟩))
    · skip
      refine wpOp_plain rfl rfl (fun K2 hK2 => ?_)
      refine wp_alloc_gen 25 rfl _ _ zero_prog rfl ?_
      intro ga w_t2 hga ra bx
      refine hK2 _ _ ?_
      clear hK2 K2
      simp only [Act.put, List.setIfInBounds_toArray, List.set_cons_zero, List.set_cons_succ]
      have bw := bx.mono hga
      have lw : B ≤ w_t1.heap.size := sz _ hS
      have la : B ≤ ga := Nat.le_trans lw hga
      have own2 := own_below own2 bw
      have r2l : g2 < w_t2.heap.size := by have := bw.size; omega
      have hS := sB _ _ hS (bw.mono lw)
      clear bw lw bx hga
      refine ⟨hS, ?_⟩
      refine wpAnyH_all (rs := [5, 7]) (by kernel_rfl) (by simp) (fun i hi => ?_)
      simp only [List.mem_cons, List.not_mem_nil, or_false] at hi
      rcases hi with rfl | rfl
      · skip
        refine wpOp_plain rfl rfl (fun K2 hK2 => ?_)
        obtain ⟨v5, w_t3, hrun, own5, hgr, hat⟩ := app5 w_t2 hS own2
        refine wp_res_gen v5 (w1 := w_t3) (by exact run_exec_append rfl hrun) ?_
        refine hK2 _ _ ?_
        clear hK2 K2
        simp only [Act.put, List.setIfInBounds_toArray, List.set_cons_zero, List.set_cons_succ]
        have lw : B ≤ w_t2.heap.size := sz _ hS
        have bw := below_grown_own (Below.refl B w_t2) own2 hgr lw (Nat.le_refl _)
        have ra := ra.grown hgr (own_ne own2 ra (by decide))
        have hS := sB _ _ hS bw
        clear bw lw hrun hgr hat own2
        refine ⟨hS, ?_⟩
        (refine wpAnyH_all (rs := [7]) (by kernel_rfl) (by simp) (fun i hi => ?_); obtain rfl : i = 7 := by simpa using hi)
        refine wpOp_plain rfl rfl (fun K2 hK2 => ?_)
        refine wp_res_gen (.slice (some ⟨w_t3.heap.size, 0, none⟩) 1 1) (w1 := w_t3.alloc (.cells #[.int .i64 ty] 3)) (by exact run_exec_bslice [(0, .tmp 56)] rfl (mk1 w_t3)) ?_
        refine hK2 _ _ ?_
        clear hK2 K2
        simp only [Act.put, List.setIfInBounds_toArray, List.set_cons_zero, List.set_cons_succ]
        have bw := (Below.refl w_t3.heap.size w_t3).alloc (Nat.le_refl _) (.cells #[.int .i64 ty] 3)
        have lw : B ≤ w_t3.heap.size := sz _ hS
        have nr := Row.new w_t3 3 #[.int .i64 ty]
        obtain ⟨g7, hg7⟩ : ∃ g, g = w_t3.heap.size := ⟨_, rfl⟩
        have ne57 : v5.ownBlock ≠ some g7 := fun e => by have := (own5.lt _ e).2; omega
        have own5 := own_below own5 bw
        have ra := ra.below bw ra.lt
        have r7 : Row (w_t3.alloc (.cells #[.int .i64 ty] 3)) g7 3 #[.int .i64 ty] := by rw [hg7]; exact nr
        have hS := sB _ _ hS (bw.mono lw)
        rw [← hg7]
        clear nr bw lw hg7
        generalize w_t3.alloc (.cells #[.int .i64 ty] 3) = w_t4 at *
        refine ⟨hS, ?_⟩
        (refine wpAnyH_all (rs := [8]) (by kernel_rfl) (by simp) (fun i hi => ?_); obtain rfl : i = 8 := by simpa using hi)
        refine wpOp_plain rfl rfl (fun K2 hK2 => ?_)
        obtain ⟨v8, w_t5, hrun, own8, hgr, hat⟩ := app8 w_t4 g7 own5 r7 (sz _ hS)
        refine wp_res_gen v8 (w1 := w_t5) (by exact run_exec_append rfl hrun) ?_
        refine hK2 _ _ ?_
        clear hK2 K2
        simp only [Act.put, List.setIfInBounds_toArray, List.set_cons_zero, List.set_cons_succ]
        have lw : B ≤ w_t4.heap.size := sz _ hS
        have bw := below_grown_own (Below.refl B w_t4) own5 hgr lw (Nat.le_refl _)
        have ra := ra.grown hgr (own_ne own5 ra (by decide))
        have hS := sB _ _ hS bw
        clear bw lw hrun hgr hat own5
        clear r7 ne57
        refine ⟨hS, ?_⟩
        obtain ⟨g8, cap8, rfl⟩ := own_formS own8
        (refine takeH (i := 11) (v := .agg #[.int .i64 p.params, .slice (some ⟨g8, 0, none⟩) (p.V.length + 1) cap8, .slice p.ba p.body.length p.bcap]) rfl (by kernel_rfl) (by kernel_rfl) (by kernel_rfl) (fun _ _ _ h => h) (yields_val rfl (fun W hW => by (go_simp))) (by assumption) ?_; simp only [Act.put, List.setIfInBounds_toArray, List.set_cons_zero, List.set_cons_succ])
        (refine wpAnyH_all (rs := [13]) (by kernel_rfl) (by simp) (fun i hi => ?_); obtain rfl : i = 13 := by simpa using hi)
        refine wpOp_plain rfl rfl (fun K2 hK2 => ?_)
        refine wp_store_gen 25 (.tmp 12) (.tmp 61) rfl ga #[.int .i64 p.params, .slice (some ⟨g8, 0, none⟩) (p.V.length + 1) cap8, .slice p.ba p.body.length p.bcap] rfl rfl 25 _ ra (by kernel_rfl) rfl (by simp [Value.oneCell']) ?_
        intro wz rz oz
        refine hK2 _ _ ?_
        clear hK2 K2
        simp only [Act.put, List.setIfInBounds_toArray, List.set_cons_zero, List.set_cons_succ]
        have hS := sB _ _ hS (oz.below la)
        have own8 := own_only own8 oz (own_ne own8 ra (by decide))
        refine ⟨hS, wpAnyH_done (by kernel_rfl) ?_ _⟩
        exact HK.out _ _ (Met.intro (HJ.out _ _ ⟨_, _, _, _, _, _, hS, rz, own8, rfl⟩))
      · skip
        refine wpOp_plain rfl rfl (fun K2 hK2 => ?_)
        refine wp_res_gen (.slice (some ⟨w_t2.heap.size, 0, none⟩) 1 1) (w1 := w_t2.alloc (.cells #[.int .i64 ty] 3)) (by exact run_exec_bslice [(0, .tmp 56)] rfl (mk1 w_t2)) ?_
        refine hK2 _ _ ?_
        clear hK2 K2
        simp only [Act.put, List.setIfInBounds_toArray, List.set_cons_zero, List.set_cons_succ]
        have bw := (Below.refl w_t2.heap.size w_t2).alloc (Nat.le_refl _) (.cells #[.int .i64 ty] 3)
        have lw : B ≤ w_t2.heap.size := sz _ hS
        have nr := Row.new w_t2 3 #[.int .i64 ty]
        obtain ⟨g7, hg7⟩ : ∃ g, g = w_t2.heap.size := ⟨_, rfl⟩
        have ne27 : g2 ≠ g7 := by have := r2l; omega
        have own2 := own_below own2 bw
        have ra := ra.below bw ra.lt
        have r7 : Row (w_t2.alloc (.cells #[.int .i64 ty] 3)) g7 3 #[.int .i64 ty] := by rw [hg7]; exact nr
        have hS := sB _ _ hS (bw.mono lw)
        rw [← hg7]
        clear nr bw lw hg7
        generalize w_t2.alloc (.cells #[.int .i64 ty] 3) = w_t3 at *
        refine ⟨hS, ?_⟩
        (refine wpAnyH_all (rs := [5]) (by kernel_rfl) (by simp) (fun i hi => ?_); obtain rfl : i = 5 := by simpa using hi)
        refine wpOp_plain rfl rfl (fun K2 hK2 => ?_)
        obtain ⟨v5, w_t4, hrun, own5, hgr, hat⟩ := app5 w_t3 hS own2
        refine wp_res_gen v5 (w1 := w_t4) (by exact run_exec_append rfl hrun) ?_
        refine hK2 _ _ ?_
        clear hK2 K2
        simp only [Act.put, List.setIfInBounds_toArray, List.set_cons_zero, List.set_cons_succ]
        have lw : B ≤ w_t3.heap.size := sz _ hS
        have bw := below_grown_own (Below.refl B w_t3) own2 hgr lw (Nat.le_refl _)
        have ra := ra.grown hgr (own_ne own2 ra (by decide))
        have ne57 : v5.ownBlock ≠ some g7 := by rcases hat with h | h <;> rw [h] <;> intro e <;> simp [Value.ownBlock] at e <;> (have := r7.lt; omega)
        have r7 := r7.grown hgr (by simp [Value.ownBlock]; exact ne27)
        have hS := sB _ _ hS bw
        clear bw lw hrun hgr hat own2
        refine ⟨hS, ?_⟩
        (refine wpAnyH_all (rs := [8]) (by kernel_rfl) (by simp) (fun i hi => ?_); obtain rfl : i = 8 := by simpa using hi)
        refine wpOp_plain rfl rfl (fun K2 hK2 => ?_)
        obtain ⟨v8, w_t5, hrun, own8, hgr, hat⟩ := app8 w_t4 g7 own5 r7 (sz _ hS)
        refine wp_res_gen v8 (w1 := w_t5) (by exact run_exec_append rfl hrun) ?_
        refine hK2 _ _ ?_
        clear hK2 K2
        simp only [Act.put, List.setIfInBounds_toArray, List.set_cons_zero, List.set_cons_succ]
        have lw : B ≤ w_t4.heap.size := sz _ hS
        have bw := below_grown_own (Below.refl B w_t4) own5 hgr lw (Nat.le_refl _)
        have ra := ra.grown hgr (own_ne own5 ra (by decide))
        have hS := sB _ _ hS bw
        clear bw lw hrun hgr hat own5
        clear r7 ne57
        refine ⟨hS, ?_⟩
        obtain ⟨g8, cap8, rfl⟩ := own_formS own8
        (refine takeH (i := 11) (v := .agg #[.int .i64 p.params, .slice (some ⟨g8, 0, none⟩) (p.V.length + 1) cap8, .slice p.ba p.body.length p.bcap]) rfl (by kernel_rfl) (by kernel_rfl) (by kernel_rfl) (fun _ _ _ h => h) (yields_val rfl (fun W hW => by (go_simp))) (by assumption) ?_; simp only [Act.put, List.setIfInBounds_toArray, List.set_cons_zero, List.set_cons_succ])
        (refine wpAnyH_all (rs := [13]) (by kernel_rfl) (by simp) (fun i hi => ?_); obtain rfl : i = 13 := by simpa using hi)
        refine wpOp_plain rfl rfl (fun K2 hK2 => ?_)
        refine wp_store_gen 25 (.tmp 12) (.tmp 61) rfl ga #[.int .i64 p.params, .slice (some ⟨g8, 0, none⟩) (p.V.length + 1) cap8, .slice p.ba p.body.length p.bcap] rfl rfl 25 _ ra (by kernel_rfl) rfl (by simp [Value.oneCell']) ?_
        intro wz rz oz
        refine hK2 _ _ ?_
        clear hK2 K2
        simp only [Act.put, List.setIfInBounds_toArray, List.set_cons_zero, List.set_cons_succ]
        have hS := sB _ _ hS (oz.below la)
        have own8 := own_only own8 oz (own_ne own8 ra (by decide))
        refine ⟨hS, wpAnyH_done (by kernel_rfl) ?_ _⟩
        exact HK.out _ _ (Met.intro (HJ.out _ _ ⟨_, _, _, _, _, _, hS, rz, own8, rfl⟩))
  · skip
    refine wpOp_plain rfl rfl (fun K2 hK2 => ?_)
    refine wp_res_gen (.slice (some ⟨w_t0.heap.size, 0, none⟩) 1 1) (w1 := w_t0.alloc (.cells #[.int .i64 ty] 3)) (by exact run_exec_bslice [(0, .tmp 56)] rfl (mk1 w_t0)) ?_
    refine hK2 _ _ ?_
    clear hK2 K2
    simp only [Act.put, List.setIfInBounds_toArray, List.set_cons_zero, List.set_cons_succ]
    have bw := (Below.refl w_t0.heap.size w_t0).alloc (Nat.le_refl _) (.cells #[.int .i64 ty] 3)
    have lw : B ≤ w_t0.heap.size := sz _ hS
    have nr := Row.new w_t0 3 #[.int .i64 ty]
    obtain ⟨g7, hg7⟩ : ∃ g, g = w_t0.heap.size := ⟨_, rfl⟩
    have r7 : Row (w_t0.alloc (.cells #[.int .i64 ty] 3)) g7 3 #[.int .i64 ty] := by rw [hg7]; exact nr
    have hS := sB _ _ hS (bw.mono lw)
    rw [← hg7]
    clear nr bw lw hg7
    generalize w_t0.alloc (.cells #[.int .i64 ty] 3) = w_t1 at *
    refine ⟨hS, ?_⟩
    refine wpAnyH_all (rs := [2, 12]) (by kernel_rfl) (by simp) (fun i hi => ?_)
    simp only [List.mem_cons, List.not_mem_nil, or_false] at hi
    rcases hi with rfl | rfl
    · skip
      refine wpOp_plain rfl rfl (fun K2 hK2 => ?_)
      refine wp_res_gen (.slice (some ⟨w_t1.heap.size, 0, none⟩) 0 0) (w1 := w_t1.alloc (.cells #[] 3)) (by exact run_exec_bslice [] rfl (mk0 w_t1)) ?_
      refine hK2 _ _ ?_
      clear hK2 K2
      simp only [Act.put, List.setIfInBounds_toArray, List.set_cons_zero, List.set_cons_succ]
      have bw := (Below.refl w_t1.heap.size w_t1).alloc (Nat.le_refl _) (.cells #[] 3)
      have lw : B ≤ w_t1.heap.size := sz _ hS
      have nr := Row.new w_t1 3 #[]
      obtain ⟨g2, hg2⟩ : ∃ g, g = w_t1.heap.size := ⟨_, rfl⟩
      have ne27 : g2 ≠ g7 := by have := r7.lt; omega
      have r7 := r7.below bw r7.lt
      have own2 : (w_t1.alloc (.cells #[] 3)).ownsRow B 3 1 (.slice (some ⟨g2, 0, none⟩) 0 0) 0 [] := by rw [hg2]; exact own_emptyS lw nr
      have hS := sB _ _ hS (bw.mono lw)
      rw [← hg2]
      have r2l : g2 < (w_t1.alloc (.cells #[] 3)).heap.size := by rw [hg2]; simp
      clear nr bw lw hg2
      generalize w_t1.alloc (.cells #[] 3) = w_t2 at *
      refine ⟨hS, ?_⟩
      refine wpAnyH_all (rs := [5, 12]) (by kernel_rfl) (by simp) (fun i hi => ?_)
      simp only [List.mem_cons, List.not_mem_nil, or_false] at hi
      rcases hi with rfl | rfl
      · skip
        refine wpOp_plain rfl rfl (fun K2 hK2 => ?_)
        obtain ⟨v5, w_t3, hrun, own5, hgr, hat⟩ := app5 w_t2 hS own2
        refine wp_res_gen v5 (w1 := w_t3) (by exact run_exec_append rfl hrun) ?_
        refine hK2 _ _ ?_
        clear hK2 K2
        simp only [Act.put, List.setIfInBounds_toArray, List.set_cons_zero, List.set_cons_succ]
        have lw : B ≤ w_t2.heap.size := sz _ hS
        have bw := below_grown_own (Below.refl B w_t2) own2 hgr lw (Nat.le_refl _)
        have ne57 : v5.ownBlock ≠ some g7 := by rcases hat with h | h <;> rw [h] <;> intro e <;> simp [Value.ownBlock] at e <;> (have := r7.lt; omega)
        have r7 := r7.grown hgr (by simp [Value.ownBlock]; exact ne27)
        have hS := sB _ _ hS bw
        clear bw lw hrun hgr hat own2
        refine ⟨hS, ?_⟩
        refine wpAnyH_all (rs := [8, 12]) (by kernel_rfl) (by simp) (fun i hi => ?_)
        simp only [List.mem_cons, List.not_mem_nil, or_false] at hi
        rcases hi with rfl | rfl
        · skip
          refine wpOp_plain rfl rfl (fun K2 hK2 => ?_)
          obtain ⟨v8, w_t4, hrun, own8, hgr, hat⟩ := app8 w_t3 g7 own5 r7 (sz _ hS)
          refine wp_res_gen v8 (w1 := w_t4) (by exact run_exec_append rfl hrun) ?_
          refine hK2 _ _ ?_
          clear hK2 K2
          simp only [Act.put, List.setIfInBounds_toArray, List.set_cons_zero, List.set_cons_succ]
          have lw : B ≤ w_t3.heap.size := sz _ hS
          have bw := below_grown_own (Below.refl B w_t3) own5 hgr lw (Nat.le_refl _)
          have hS := sB _ _ hS bw
          clear bw lw hrun hgr hat own5
          clear r7 ne57
          refine ⟨hS, ?_⟩
          obtain ⟨g8, cap8, rfl⟩ := own_formS own8
          (refine takeH (i := 11) (v := .agg #[.int .i64 p.params, .slice (some ⟨g8, 0, none⟩) (p.V.length + 1) cap8, .slice p.ba p.body.length p.bcap]) rfl (by kernel_rfl) (by kernel_rfl) (by kernel_rfl) (fun _ _ _ h => h) (yields_val rfl (fun W hW => by (go_simp))) (by assumption) ?_; simp only [Act.put, List.setIfInBounds_toArray, List.set_cons_zero, List.set_cons_succ])
          (refine wpAnyH_all (rs := [12]) (by kernel_rfl) (by simp) (fun i hi => ?_); obtain rfl : i = 12 := by simpa using hi)
          refine wpOp_plain rfl rfl (fun K2 hK2 => ?_)
          refine wp_alloc_gen 25 rfl _ _ zero_prog rfl ?_
          intro ga w_t5 hga ra bx
          refine hK2 _ _ ?_
          clear hK2 K2
          simp only [Act.put, List.setIfInBounds_toArray, List.set_cons_zero, List.set_cons_succ]
          have bw := bx.mono hga
          have lw : B ≤ w_t4.heap.size := sz _ hS
          have la : B ≤ ga := Nat.le_trans lw hga
          have own8 := own_below own8 bw
          have hS := sB _ _ hS (bw.mono lw)
          clear bw lw bx hga
          refine ⟨hS, ?_⟩
          (refine wpAnyH_all (rs := [13]) (by kernel_rfl) (by simp) (fun i hi => ?_); obtain rfl : i = 13 := by simpa using hi)
          refine wpOp_plain rfl rfl (fun K2 hK2 => ?_)
          refine wp_store_gen 25 (.tmp 12) (.tmp 61) rfl ga #[.int .i64 p.params, .slice (some ⟨g8, 0, none⟩) (p.V.length + 1) cap8, .slice p.ba p.body.length p.bcap] rfl rfl 25 _ ra (by kernel_rfl) rfl (by simp [Value.oneCell']) ?_
          intro wz rz oz
          refine hK2 _ _ ?_
          clear hK2 K2
          simp only [Act.put, List.setIfInBounds_toArray, List.set_cons_zero, List.set_cons_succ]
          have hS := sB _ _ hS (oz.below la)
          have own8 := own_only own8 oz (own_ne own8 ra (by decide))
          refine ⟨hS, wpAnyH_done (by kernel_rfl) ?_ _⟩
          exact HK.out _ _ (Met.intro (HJ.out _ _ ⟨_, _, _, _, _, _, hS, rz, own8, rfl⟩))
        · skip
          refine wpOp_plain rfl rfl (fun K2 hK2 => ?_)
          refine wp_alloc_gen 25 rfl _ _ zero_prog rfl ?_
          intro ga w_t4 hga ra bx
          refine hK2 _ _ ?_
          clear hK2 K2
          simp only [Act.put, List.setIfInBounds_toArray, List.set_cons_zero, List.set_cons_succ]
          have bw := bx.mono hga
          have lw : B ≤ w_t3.heap.size := sz _ hS
          have la : B ≤ ga := Nat.le_trans lw hga
          have own5 := own_below own5 bw
          have r7 := r7.below bw r7.lt
          have hS := sB _ _ hS (bw.mono lw)
          clear bw lw bx hga
          refine ⟨hS, ?_⟩
          (refine wpAnyH_all (rs := [8]) (by kernel_rfl) (by simp) (fun i hi => ?_); obtain rfl : i = 8 := by simpa using hi)
          refine wpOp_plain rfl rfl (fun K2 hK2 => ?_)
          obtain ⟨v8, w_t5, hrun, own8, hgr, hat⟩ := app8 w_t4 g7 own5 r7 (sz _ hS)
          refine wp_res_gen v8 (w1 := w_t5) (by exact run_exec_append rfl hrun) ?_
          refine hK2 _ _ ?_
          clear hK2 K2
          simp only [Act.put, List.setIfInBounds_toArray, List.set_cons_zero, List.set_cons_succ]
          have lw : B ≤ w_t4.heap.size := sz _ hS
          have bw := below_grown_own (Below.refl B w_t4) own5 hgr lw (Nat.le_refl _)
          have ra := ra.grown hgr (own_ne own5 ra (by decide))
          have hS := sB _ _ hS bw
          clear bw lw hrun hgr hat own5
          clear r7 ne57
          refine ⟨hS, ?_⟩
          obtain ⟨g8, cap8, rfl⟩ := own_formS own8
          (refine takeH (i := 11) (v := .agg #[.int .i64 p.params, .slice (some ⟨g8, 0, none⟩) (p.V.length + 1) cap8, .slice p.ba p.body.length p.bcap]) rfl (by kernel_rfl) (by kernel_rfl) (by kernel_rfl) (fun _ _ _ h => h) (yields_val rfl (fun W hW => by (go_simp))) (by assumption) ?_; simp only [Act.put, List.setIfInBounds_toArray, List.set_cons_zero, List.set_cons_succ])
          (refine wpAnyH_all (rs := [13]) (by kernel_rfl) (by simp) (fun i hi => ?_); obtain rfl : i = 13 := by simpa using hi)
          refine wpOp_plain rfl rfl (fun K2 hK2 => ?_)
          refine wp_store_gen 25 (.tmp 12) (.tmp 61) rfl ga #[.int .i64 p.params, .slice (some ⟨g8, 0, none⟩) (p.V.length + 1) cap8, .slice p.ba p.body.length p.bcap] rfl rfl 25 _ ra (by kernel_rfl) rfl (by simp [Value.oneCell']) ?_
          intro wz rz oz
          refine hK2 _ _ ?_
          clear hK2 K2
          simp only [Act.put, List.setIfInBounds_toArray, List.set_cons_zero, List.set_cons_succ]
          have hS := sB _ _ hS (oz.below la)
          have own8 := own_only own8 oz (own_ne own8 ra (by decide))
          refine ⟨hS, wpAnyH_done (by kernel_rfl) ?_ _⟩
          exact HK.out _ _ (Met.intro (HJ.out _ _ ⟨_, _, _, _, _, _, hS, rz, own8, rfl⟩))
      · skip
        refine wpOp_plain rfl rfl (fun K2 hK2 => ?_)
        refine wp_alloc_gen 25 rfl _ _ zero_prog rfl ?_
        intro ga w_t3 hga ra bx
        refine hK2 _ _ ?_
        clear hK2 K2
        simp only [Act.put, List.setIfInBounds_toArray, List.set_cons_zero, List.set_cons_succ]
        have bw := bx.mono hga
        have lw : B ≤ w_t2.heap.size := sz _ hS
        have la : B ≤ ga := Nat.le_trans lw hga
        have own2 := own_below own2 bw
        have r7 := r7.below bw r7.lt
        have hS := sB _ _ hS (bw.mono lw)
        clear bw lw bx hga
        refine ⟨hS, ?_⟩
        (refine wpAnyH_all (rs := [5]) (by kernel_rfl) (by simp) (fun i hi => ?_); obtain rfl : i = 5 := by simpa using hi)
        refine wpOp_plain rfl rfl (fun K2 hK2 => ?_)
        obtain ⟨v5, w_t4, hrun, own5, hgr, hat⟩ := app5 w_t3 hS own2
        refine wp_res_gen v5 (w1 := w_t4) (by exact run_exec_append rfl hrun) ?_
        refine hK2 _ _ ?_
        clear hK2 K2
        simp only [Act.put, List.setIfInBounds_toArray, List.set_cons_zero, List.set_cons_succ]
        have lw : B ≤ w_t3.heap.size := sz _ hS
        have bw := below_grown_own (Below.refl B w_t3) own2 hgr lw (Nat.le_refl _)
        have ra := ra.grown hgr (own_ne own2 ra (by decide))
        have ne57 : v5.ownBlock ≠ some g7 := by rcases hat with h | h <;> rw [h] <;> intro e <;> simp [Value.ownBlock] at e <;> (have := r7.lt; omega)
        have r7 := r7.grown hgr (by simp [Value.ownBlock]; exact ne27)
        have hS := sB _ _ hS bw
        clear bw lw hrun hgr hat own2
        refine ⟨hS, ?_⟩
        (refine wpAnyH_all (rs := [8]) (by kernel_rfl) (by simp) (fun i hi => ?_); obtain rfl : i = 8 := by simpa using hi)
        refine wpOp_plain rfl rfl (fun K2 hK2 => ?_)
        obtain ⟨v8, w_t5, hrun, own8, hgr, hat⟩ := app8 w_t4 g7 own5 r7 (sz _ hS)
        refine wp_res_gen v8 (w1 := w_t5) (by exact run_exec_append rfl hrun) ?_
        refine hK2 _ _ ?_
        clear hK2 K2
        simp only [Act.put, List.setIfInBounds_toArray, List.set_cons_zero, List.set_cons_succ]
        have lw : B ≤ w_t4.heap.size := sz _ hS
        have bw := below_grown_own (Below.refl B w_t4) own5 hgr lw (Nat.le_refl _)
        have ra := ra.grown hgr (own_ne own5 ra (by decide))
        have hS := sB _ _ hS bw
        clear bw lw hrun hgr hat own5
        clear r7 ne57
        refine ⟨hS, ?_⟩
        obtain ⟨g8, cap8, rfl⟩ := own_formS own8
        (refine takeH (i := 11) (v := .agg #[.int .i64 p.params, .slice (some ⟨g8, 0, none⟩) (p.V.length + 1) cap8, .slice p.ba p.body.length p.bcap]) rfl (by kernel_rfl) (by kernel_rfl) (by kernel_rfl) (fun _ _ _ h => h) (yields_val rfl (fun W hW => by (go_simp))) (by assumption) ?_; simp only [Act.put, List.setIfInBounds_toArray, List.set_cons_zero, List.set_cons_succ])
        (refine wpAnyH_all (rs := [13]) (by kernel_rfl) (by simp) (fun i hi => ?_); obtain rfl : i = 13 := by simpa using hi)
        refine wpOp_plain rfl rfl (fun K2 hK2 => ?_)
        refine wp_store_gen 25 (.tmp 12) (.tmp 61) rfl ga #[.int .i64 p.params, .slice (some ⟨g8, 0, none⟩) (p.V.length + 1) cap8, .slice p.ba p.body.length p.bcap] rfl rfl 25 _ ra (by kernel_rfl) rfl (by simp [Value.oneCell']) ?_
        intro wz rz oz
        refine hK2 _ _ ?_
        clear hK2 K2
        simp only [Act.put, List.setIfInBounds_toArray, List.set_cons_zero, List.set_cons_succ]
        have hS := sB _ _ hS (oz.below la)
        have own8 := own_only own8 oz (own_ne own8 ra (by decide))
        refine ⟨hS, wpAnyH_done (by kernel_rfl) ?_ _⟩
        exact HK.out _ _ (Met.intro (HJ.out _ _ ⟨_, _, _, _, _, _, hS, rz, own8, rfl⟩))
    · skip
      refine wpOp_plain rfl rfl (fun K2 hK2 => ?_)
      refine wp_alloc_gen 25 rfl _ _ zero_prog rfl ?_
      intro ga w_t2 hga ra bx
      refine hK2 _ _ ?_
      clear hK2 K2
      simp only [Act.put, List.setIfInBounds_toArray, List.set_cons_zero, List.set_cons_succ]
      have bw := bx.mono hga
      have lw : B ≤ w_t1.heap.size := sz _ hS
      have la : B ≤ ga := Nat.le_trans lw hga
      have r7 := r7.below bw r7.lt
      have hS := sB _ _ hS (bw.mono lw)
      clear bw lw bx hga
      refine ⟨hS, ?_⟩
      (refine wpAnyH_all (rs := [2]) (by kernel_rfl) (by simp) (fun i hi => ?_); obtain rfl : i = 2 := by simpa using hi)
      refine wpOp_plain rfl rfl (fun K2 hK2 => ?_)
      refine wp_res_gen (.slice (some ⟨w_t2.heap.size, 0, none⟩) 0 0) (w1 := w_t2.alloc (.cells #[] 3)) (by exact run_exec_bslice [] rfl (mk0 w_t2)) ?_
      refine hK2 _ _ ?_
      clear hK2 K2
      simp only [Act.put, List.setIfInBounds_toArray, List.set_cons_zero, List.set_cons_succ]
      have bw := (Below.refl w_t2.heap.size w_t2).alloc (Nat.le_refl _) (.cells #[] 3)
      have lw : B ≤ w_t2.heap.size := sz _ hS
      have nr := Row.new w_t2 3 #[]
      obtain ⟨g2, hg2⟩ : ∃ g, g = w_t2.heap.size := ⟨_, rfl⟩
      have ne27 : g2 ≠ g7 := by have := r7.lt; omega
      have r7 := r7.below bw r7.lt
      have ra := ra.below bw ra.lt
      have own2 : (w_t2.alloc (.cells #[] 3)).ownsRow B 3 1 (.slice (some ⟨g2, 0, none⟩) 0 0) 0 [] := by rw [hg2]; exact own_emptyS lw nr
      have hS := sB _ _ hS (bw.mono lw)
      rw [← hg2]
      have r2l : g2 < (w_t2.alloc (.cells #[] 3)).heap.size := by rw [hg2]; simp
      clear nr bw lw hg2
      generalize w_t2.alloc (.cells #[] 3) = w_t3 at *
      refine ⟨hS, ?_⟩
      (refine wpAnyH_all (rs := [5]) (by kernel_rfl) (by simp) (fun i hi => ?_); obtain rfl : i = 5 := by simpa using hi)
      refine wpOp_plain rfl rfl (fun K2 hK2 => ?_)
      obtain ⟨v5, w_t4, hrun, own5, hgr, hat⟩ := app5 w_t3 hS own2
      refine wp_res_gen v5 (w1 := w_t4) (by exact run_exec_append rfl hrun) ?_
      refine hK2 _ _ ?_
      clear hK2 K2
      simp only [Act.put, List.setIfInBounds_toArray, List.set_cons_zero, List.set_cons_succ]
      have lw : B ≤ w_t3.heap.size := sz _ hS
      have bw := below_grown_own (Below.refl B w_t3) own2 hgr lw (Nat.le_refl _)
      have ra := ra.grown hgr (own_ne own2 ra (by decide))
      have ne57 : v5.ownBlock ≠ some g7 := by rcases hat with h | h <;> rw [h] <;> intro e <;> simp [Value.ownBlock] at e <;> (have := r7.lt; omega)
      have r7 := r7.grown hgr (by simp [Value.ownBlock]; exact ne27)
      have hS := sB _ _ hS bw
      clear bw lw hrun hgr hat own2
      refine ⟨hS, ?_⟩
      (refine wpAnyH_all (rs := [8]) (by kernel_rfl) (by simp) (fun i hi => ?_); obtain rfl : i = 8 := by simpa using hi)
      refine wpOp_plain rfl rfl (fun K2 hK2 => ?_)
      obtain ⟨v8, w_t5, hrun, own8, hgr, hat⟩ := app8 w_t4 g7 own5 r7 (sz _ hS)
      refine wp_res_gen v8 (w1 := w_t5) (by exact run_exec_append rfl hrun) ?_
      refine hK2 _ _ ?_
      clear hK2 K2
      simp only [Act.put, List.setIfInBounds_toArray, List.set_cons_zero, List.set_cons_succ]
      have lw : B ≤ w_t4.heap.size := sz _ hS
      have bw := below_grown_own (Below.refl B w_t4) own5 hgr lw (Nat.le_refl _)
      have ra := ra.grown hgr (own_ne own5 ra (by decide))
      have hS := sB _ _ hS bw
      clear bw lw hrun hgr hat own5
      clear r7 ne57
      refine ⟨hS, ?_⟩
      obtain ⟨g8, cap8, rfl⟩ := own_formS own8
      (refine takeH (i := 11) (v := .agg #[.int .i64 p.params, .slice (some ⟨g8, 0, none⟩) (p.V.length + 1) cap8, .slice p.ba p.body.length p.bcap]) rfl (by kernel_rfl) (by kernel_rfl) (by kernel_rfl) (fun _ _ _ h => h) (yields_val rfl (fun W hW => by (go_simp))) (by assumption) ?_; simp only [Act.put, List.setIfInBounds_toArray, List.set_cons_zero, List.set_cons_succ])
      (refine wpAnyH_all (rs := [13]) (by kernel_rfl) (by simp) (fun i hi => ?_); obtain rfl : i = 13 := by simpa using hi)
      refine wpOp_plain rfl rfl (fun K2 hK2 => ?_)
      refine wp_store_gen 25 (.tmp 12) (.tmp 61) rfl ga #[.int .i64 p.params, .slice (some ⟨g8, 0, none⟩) (p.V.length + 1) cap8, .slice p.ba p.body.length p.bcap] rfl rfl 25 _ ra (by kernel_rfl) rfl (by simp [Value.oneCell']) ?_
      intro wz rz oz
      refine hK2 _ _ ?_
      clear hK2 K2
      simp only [Act.put, List.setIfInBounds_toArray, List.set_cons_zero, List.set_cons_succ]
      have hS := sB _ _ hS (oz.below la)
      have own8 := own_only own8 oz (own_ne own8 ra (by decide))
      refine ⟨hS, wpAnyH_done (by kernel_rfl) ?_ _⟩
      exact HK.out _ _ (Met.intro (HJ.out _ _ ⟨_, _, _, _, _, _, hS, rz, own8, rfl⟩))
  · skip
    refine wpOp_plain rfl rfl (fun K2 hK2 => ?_)
    refine wp_alloc_gen 25 rfl _ _ zero_prog rfl ?_
    intro ga w_t1 hga ra bx
    refine hK2 _ _ ?_
    clear hK2 K2
    simp only [Act.put, List.setIfInBounds_toArray, List.set_cons_zero, List.set_cons_succ]
    have bw := bx.mono hga
    have lw : B ≤ w_t0.heap.size := sz _ hS
    have la : B ≤ ga := Nat.le_trans lw hga
    have hS := sB _ _ hS (bw.mono lw)
    clear bw lw bx hga
    refine ⟨hS, ?_⟩
    refine wpAnyH_all (rs := [2, 7]) (by kernel_rfl) (by simp) (fun i hi => ?_)
    simp only [List.mem_cons, List.not_mem_nil, or_false] at hi
    rcases hi with rfl | rfl
    · skip
      refine wpOp_plain rfl rfl (fun K2 hK2 => ?_)
      refine wp_res_gen (.slice (some ⟨w_t1.heap.size, 0, none⟩) 0 0) (w1 := w_t1.alloc (.cells #[] 3)) (by exact run_exec_bslice [] rfl (mk0 w_t1)) ?_
      refine hK2 _ _ ?_
      clear hK2 K2
      simp only [Act.put, List.setIfInBounds_toArray, List.set_cons_zero, List.set_cons_succ]
      have bw := (Below.refl w_t1.heap.size w_t1).alloc (Nat.le_refl _) (.cells #[] 3)
      have lw : B ≤ w_t1.heap.size := sz _ hS
      have nr := Row.new w_t1 3 #[]
      obtain ⟨g2, hg2⟩ : ∃ g, g = w_t1.heap.size := ⟨_, rfl⟩
      have ra := ra.below bw ra.lt
      have own2 : (w_t1.alloc (.cells #[] 3)).ownsRow B 3 1 (.slice (some ⟨g2, 0, none⟩) 0 0) 0 [] := by rw [hg2]; exact own_emptyS lw nr
      have hS := sB _ _ hS (bw.mono lw)
      rw [← hg2]
      have r2l : g2 < (w_t1.alloc (.cells #[] 3)).heap.size := by rw [hg2]; simp
      clear nr bw lw hg2
      generalize w_t1.alloc (.cells #[] 3) = w_t2 at *
      refine ⟨hS, ?_⟩
      refine wpAnyH_all (rs := [5, 7]) (by kernel_rfl) (by simp) (fun i hi => ?_)
      simp only [List.mem_cons, List.not_mem_nil, or_false] at hi
      rcases hi with rfl | rfl
      · skip
        refine wpOp_plain rfl rfl (fun K2 hK2 => ?_)
        obtain ⟨v5, w_t3, hrun, own5, hgr, hat⟩ := app5 w_t2 hS own2
        refine wp_res_gen v5 (w1 := w_t3) (by exact run_exec_append rfl hrun) ?_
        refine hK2 _ _ ?_
        clear hK2 K2
        simp only [Act.put, List.setIfInBounds_toArray, List.set_cons_zero, List.set_cons_succ]
        have lw : B ≤ w_t2.heap.size := sz _ hS
        have bw := below_grown_own (Below.refl B w_t2) own2 hgr lw (Nat.le_refl _)
        have ra := ra.grown hgr (own_ne own2 ra (by decide))
        have hS := sB _ _ hS bw
        clear bw lw hrun hgr hat own2
        refine ⟨hS, ?_⟩
        (refine wpAnyH_all (rs := [7]) (by kernel_rfl) (by simp) (fun i hi => ?_); obtain rfl : i = 7 := by simpa using hi)
        refine wpOp_plain rfl rfl (fun K2 hK2 => ?_)
        refine wp_res_gen (.slice (some ⟨w_t3.heap.size, 0, none⟩) 1 1) (w1 := w_t3.alloc (.cells #[.int .i64 ty] 3)) (by exact run_exec_bslice [(0, .tmp 56)] rfl (mk1 w_t3)) ?_
        refine hK2 _ _ ?_
        clear hK2 K2
        simp only [Act.put, List.setIfInBounds_toArray, List.set_cons_zero, List.set_cons_succ]
        have bw := (Below.refl w_t3.heap.size w_t3).alloc (Nat.le_refl _) (.cells #[.int .i64 ty] 3)
        have lw : B ≤ w_t3.heap.size := sz _ hS
        have nr := Row.new w_t3 3 #[.int .i64 ty]
        obtain ⟨g7, hg7⟩ : ∃ g, g = w_t3.heap.size := ⟨_, rfl⟩
        have ne57 : v5.ownBlock ≠ some g7 := fun e => by have := (own5.lt _ e).2; omega
        have own5 := own_below own5 bw
        have ra := ra.below bw ra.lt
        have r7 : Row (w_t3.alloc (.cells #[.int .i64 ty] 3)) g7 3 #[.int .i64 ty] := by rw [hg7]; exact nr
        have hS := sB _ _ hS (bw.mono lw)
        rw [← hg7]
        clear nr bw lw hg7
        generalize w_t3.alloc (.cells #[.int .i64 ty] 3) = w_t4 at *
        refine ⟨hS, ?_⟩
        (refine wpAnyH_all (rs := [8]) (by kernel_rfl) (by simp) (fun i hi => ?_); obtain rfl : i = 8 := by simpa using hi)
        refine wpOp_plain rfl rfl (fun K2 hK2 => ?_)
        obtain ⟨v8, w_t5, hrun, own8, hgr, hat⟩ := app8 w_t4 g7 own5 r7 (sz _ hS)
        refine wp_res_gen v8 (w1 := w_t5) (by exact run_exec_append rfl hrun) ?_
        refine hK2 _ _ ?_
        clear hK2 K2
        simp only [Act.put, List.setIfInBounds_toArray, List.set_cons_zero, List.set_cons_succ]
        have lw : B ≤ w_t4.heap.size := sz _ hS
        have bw := below_grown_own (Below.refl B w_t4) own5 hgr lw (Nat.le_refl _)
        have ra := ra.grown hgr (own_ne own5 ra (by decide))
        have hS := sB _ _ hS bw
        clear bw lw hrun hgr hat own5
        clear r7 ne57
        refine ⟨hS, ?_⟩
        obtain ⟨g8, cap8, rfl⟩ := own_formS own8
        (refine takeH (i := 11) (v := .agg #[.int .i64 p.params, .slice (some ⟨g8, 0, none⟩) (p.V.length + 1) cap8, .slice p.ba p.body.length p.bcap]) rfl (by kernel_rfl) (by kernel_rfl) (by kernel_rfl) (fun _ _ _ h => h) (yields_val rfl (fun W hW => by (go_simp))) (by assumption) ?_; simp only [Act.put, List.setIfInBounds_toArray, List.set_cons_zero, List.set_cons_succ])
        (refine wpAnyH_all (rs := [13]) (by kernel_rfl) (by simp) (fun i hi => ?_); obtain rfl : i = 13 := by simpa using hi)
        refine wpOp_plain rfl rfl (fun K2 hK2 => ?_)
        refine wp_store_gen 25 (.tmp 12) (.tmp 61) rfl ga #[.int .i64 p.params, .slice (some ⟨g8, 0, none⟩) (p.V.length + 1) cap8, .slice p.ba p.body.length p.bcap] rfl rfl 25 _ ra (by kernel_rfl) rfl (by simp [Value.oneCell']) ?_
        intro wz rz oz
        refine hK2 _ _ ?_
        clear hK2 K2
        simp only [Act.put, List.setIfInBounds_toArray, List.set_cons_zero, List.set_cons_succ]
        have hS := sB _ _ hS (oz.below la)
        have own8 := own_only own8 oz (own_ne own8 ra (by decide))
        refine ⟨hS, wpAnyH_done (by kernel_rfl) ?_ _⟩
        exact HK.out _ _ (Met.intro (HJ.out _ _ ⟨_, _, _, _, _, _, hS, rz, own8, rfl⟩))
      · skip
        refine wpOp_plain rfl rfl (fun K2 hK2 => ?_)
        refine wp_res_gen (.slice (some ⟨w_t2.heap.size, 0, none⟩) 1 1) (w1 := w_t2.alloc (.cells #[.int .i64 ty] 3)) (by exact run_exec_bslice [(0, .tmp 56)] rfl (mk1 w_t2)) ?_
        refine hK2 _ _ ?_
        clear hK2 K2
        simp only [Act.put, List.setIfInBounds_toArray, List.set_cons_zero, List.set_cons_succ]
        have bw := (Below.refl w_t2.heap.size w_t2).alloc (Nat.le_refl _) (.cells #[.int .i64 ty] 3)
        have lw : B ≤ w_t2.heap.size := sz _ hS
        have nr := Row.new w_t2 3 #[.int .i64 ty]
        obtain ⟨g7, hg7⟩ : ∃ g, g = w_t2.heap.size := ⟨_, rfl⟩
        have ne27 : g2 ≠ g7 := by have := r2l; omega
        have own2 := own_below own2 bw
        have ra := ra.below bw ra.lt
        have r7 : Row (w_t2.alloc (.cells #[.int .i64 ty] 3)) g7 3 #[.int .i64 ty] := by rw [hg7]; exact nr
        have hS := sB _ _ hS (bw.mono lw)
        rw [← hg7]
        clear nr bw lw hg7
        generalize w_t2.alloc (.cells #[.int .i64 ty] 3) = w_t3 at *
        refine ⟨hS, ?_⟩
        (refine wpAnyH_all (rs := [5]) (by kernel_rfl) (by simp) (fun i hi => ?_); obtain rfl : i = 5 := by simpa using hi)
        refine wpOp_plain rfl rfl (fun K2 hK2 => ?_)
        obtain ⟨v5, w_t4, hrun, own5, hgr, hat⟩ := app5 w_t3 hS own2
        refine wp_res_gen v5 (w1 := w_t4) (by exact run_exec_append rfl hrun) ?_
        refine hK2 _ _ ?_
        clear hK2 K2
        simp only [Act.put, List.setIfInBounds_toArray, List.set_cons_zero, List.set_cons_succ]
        have lw : B ≤ w_t3.heap.size := sz _ hS
        have bw := below_grown_own (Below.refl B w_t3) own2 hgr lw (Nat.le_refl _)
        have ra := ra.grown hgr (own_ne own2 ra (by decide))
        have ne57 : v5.ownBlock ≠ some g7 := by rcases hat with h | h <;> rw [h] <;> intro e <;> simp [Value.ownBlock] at e <;> (have := r7.lt; omega)
        have r7 := r7.grown hgr (by simp [Value.ownBlock]; exact ne27)
        have hS := sB _ _ hS bw
        clear bw lw hrun hgr hat own2
        refine ⟨hS, ?_⟩
        (refine wpAnyH_all (rs := [8]) (by kernel_rfl) (by simp) (fun i hi => ?_); obtain rfl : i = 8 := by simpa using hi)
        refine wpOp_plain rfl rfl (fun K2 hK2 => ?_)
        obtain ⟨v8, w_t5, hrun, own8, hgr, hat⟩ := app8 w_t4 g7 own5 r7 (sz _ hS)
        refine wp_res_gen v8 (w1 := w_t5) (by exact run_exec_append rfl hrun) ?_
        refine hK2 _ _ ?_
        clear hK2 K2
        simp only [Act.put, List.setIfInBounds_toArray, List.set_cons_zero, List.set_cons_succ]
        have lw : B ≤ w_t4.heap.size := sz _ hS
        have bw := below_grown_own (Below.refl B w_t4) own5 hgr lw (Nat.le_refl _)
        have ra := ra.grown hgr (own_ne own5 ra (by decide))
        have hS := sB _ _ hS bw
        clear bw lw hrun hgr hat own5
        clear r7 ne57
        refine ⟨hS, ?_⟩
        obtain ⟨g8, cap8, rfl⟩ := own_formS own8
        (refine takeH (i := 11) (v := .agg #[.int .i64 p.params, .slice (some ⟨g8, 0, none⟩) (p.V.length + 1) cap8, .slice p.ba p.body.length p.bcap]) rfl (by kernel_rfl) (by kernel_rfl) (by kernel_rfl) (fun _ _ _ h => h) (yields_val rfl (fun W hW => by (go_simp))) (by assumption) ?_; simp only [Act.put, List.setIfInBounds_toArray, List.set_cons_zero, List.set_cons_succ])
        (refine wpAnyH_all (rs := [13]) (by kernel_rfl) (by simp) (fun i hi => ?_); obtain rfl : i = 13 := by simpa using hi)
        refine wpOp_plain rfl rfl (fun K2 hK2 => ?_)
        refine wp_store_gen 25 (.tmp 12) (.tmp 61) rfl ga #[.int .i64 p.params, .slice (some ⟨g8, 0, none⟩) (p.V.length + 1) cap8, .slice p.ba p.body.length p.bcap] rfl rfl 25 _ ra (by kernel_rfl) rfl (by simp [Value.oneCell']) ?_
        intro wz rz oz
        refine hK2 _ _ ?_
        clear hK2 K2
        simp only [Act.put, List.setIfInBounds_toArray, List.set_cons_zero, List.set_cons_succ]
        have hS := sB _ _ hS (oz.below la)
        have own8 := own_only own8 oz (own_ne own8 ra (by decide))
        refine ⟨hS, wpAnyH_done (by kernel_rfl) ?_ _⟩
        exact HK.out _ _ (Met.intro (HJ.out _ _ ⟨_, _, _, _, _, _, hS, rz, own8, rfl⟩))
    · skip
      refine wpOp_plain rfl rfl (fun K2 hK2 => ?_)
      refine wp_res_gen (.slice (some ⟨w_t1.heap.size, 0, none⟩) 1 1) (w1 := w_t1.alloc (.cells #[.int .i64 ty] 3)) (by exact run_exec_bslice [(0, .tmp 56)] rfl (mk1 w_t1)) ?_
      refine hK2 _ _ ?_
      clear hK2 K2
      simp only [Act.put, List.setIfInBounds_toArray, List.set_cons_zero, List.set_cons_succ]
      have bw := (Below.refl w_t1.heap.size w_t1).alloc (Nat.le_refl _) (.cells #[.int .i64 ty] 3)
      have lw : B ≤ w_t1.heap.size := sz _ hS
      have nr := Row.new w_t1 3 #[.int .i64 ty]
      obtain ⟨g7, hg7⟩ : ∃ g, g = w_t1.heap.size := ⟨_, rfl⟩
      have ra := ra.below bw ra.lt
      have r7 : Row (w_t1.alloc (.cells #[.int .i64 ty] 3)) g7 3 #[.int .i64 ty] := by rw [hg7]; exact nr
      have hS := sB _ _ hS (bw.mono lw)
      rw [← hg7]
      clear nr bw lw hg7
      generalize w_t1.alloc (.cells #[.int .i64 ty] 3) = w_t2 at *
      refine ⟨hS, ?_⟩
      (refine wpAnyH_all (rs := [2]) (by kernel_rfl) (by simp) (fun i hi => ?_); obtain rfl : i = 2 := by simpa using hi)
      refine wpOp_plain rfl rfl (fun K2 hK2 => ?_)
      refine wp_res_gen (.slice (some ⟨w_t2.heap.size, 0, none⟩) 0 0) (w1 := w_t2.alloc (.cells #[] 3)) (by exact run_exec_bslice [] rfl (mk0 w_t2)) ?_
      refine hK2 _ _ ?_
      clear hK2 K2
      simp only [Act.put, List.setIfInBounds_toArray, List.set_cons_zero, List.set_cons_succ]
      have bw := (Below.refl w_t2.heap.size w_t2).alloc (Nat.le_refl _) (.cells #[] 3)
      have lw : B ≤ w_t2.heap.size := sz _ hS
      have nr := Row.new w_t2 3 #[]
      obtain ⟨g2, hg2⟩ : ∃ g, g = w_t2.heap.size := ⟨_, rfl⟩
      have ne27 : g2 ≠ g7 := by have := r7.lt; omega
      have r7 := r7.below bw r7.lt
      have ra := ra.below bw ra.lt
      have own2 : (w_t2.alloc (.cells #[] 3)).ownsRow B 3 1 (.slice (some ⟨g2, 0, none⟩) 0 0) 0 [] := by rw [hg2]; exact own_emptyS lw nr
      have hS := sB _ _ hS (bw.mono lw)
      rw [← hg2]
      have r2l : g2 < (w_t2.alloc (.cells #[] 3)).heap.size := by rw [hg2]; simp
      clear nr bw lw hg2
      generalize w_t2.alloc (.cells #[] 3) = w_t3 at *
      refine ⟨hS, ?_⟩
      (refine wpAnyH_all (rs := [5]) (by kernel_rfl) (by simp) (fun i hi => ?_); obtain rfl : i = 5 := by simpa using hi)
      refine wpOp_plain rfl rfl (fun K2 hK2 => ?_)
      obtain ⟨v5, w_t4, hrun, own5, hgr, hat⟩ := app5 w_t3 hS own2
      refine wp_res_gen v5 (w1 := w_t4) (by exact run_exec_append rfl hrun) ?_
      refine hK2 _ _ ?_
      clear hK2 K2
      simp only [Act.put, List.setIfInBounds_toArray, List.set_cons_zero, List.set_cons_succ]
      have lw : B ≤ w_t3.heap.size := sz _ hS
      have bw := below_grown_own (Below.refl B w_t3) own2 hgr lw (Nat.le_refl _)
      have ra := ra.grown hgr (own_ne own2 ra (by decide))
      have ne57 : v5.ownBlock ≠ some g7 := by rcases hat with h | h <;> rw [h] <;> intro e <;> simp [Value.ownBlock] at e <;> (have := r7.lt; omega)
      have r7 := r7.grown hgr (by simp [Value.ownBlock]; exact ne27)
      have hS := sB _ _ hS bw
      clear bw lw hrun hgr hat own2
      refine ⟨hS, ?_⟩
      (refine wpAnyH_all (rs := [8]) (by kernel_rfl) (by simp) (fun i hi => ?_); obtain rfl : i = 8 := by simpa using hi)
      refine wpOp_plain rfl rfl (fun K2 hK2 => ?_)
      obtain ⟨v8, w_t5, hrun, own8, hgr, hat⟩ := app8 w_t4 g7 own5 r7 (sz _ hS)
      refine wp_res_gen v8 (w1 := w_t5) (by exact run_exec_append rfl hrun) ?_
      refine hK2 _ _ ?_
      clear hK2 K2
      simp only [Act.put, List.setIfInBounds_toArray, List.set_cons_zero, List.set_cons_succ]
      have lw : B ≤ w_t4.heap.size := sz _ hS
      have bw := below_grown_own (Below.refl B w_t4) own5 hgr lw (Nat.le_refl _)
      have ra := ra.grown hgr (own_ne own5 ra (by decide))
      have hS := sB _ _ hS bw
      clear bw lw hrun hgr hat own5
      clear r7 ne57
      refine ⟨hS, ?_⟩
      obtain ⟨g8, cap8, rfl⟩ := own_formS own8
      (refine takeH (i := 11) (v := .agg #[.int .i64 p.params, .slice (some ⟨g8, 0, none⟩) (p.V.length + 1) cap8, .slice p.ba p.body.length p.bcap]) rfl (by kernel_rfl) (by kernel_rfl) (by kernel_rfl) (fun _ _ _ h => h) (yields_val rfl (fun W hW => by (go_simp))) (by assumption) ?_; simp only [Act.put, List.setIfInBounds_toArray, List.set_cons_zero, List.set_cons_succ])
      (refine wpAnyH_all (rs := [13]) (by kernel_rfl) (by simp) (fun i hi => ?_); obtain rfl : i = 13 := by simpa using hi)
      refine wpOp_plain rfl rfl (fun K2 hK2 => ?_)
      refine wp_store_gen 25 (.tmp 12) (.tmp 61) rfl ga #[.int .i64 p.params, .slice (some ⟨g8, 0, none⟩) (p.V.length + 1) cap8, .slice p.ba p.body.length p.bcap] rfl rfl 25 _ ra (by kernel_rfl) rfl (by simp [Value.oneCell']) ?_
      intro wz rz oz
      refine hK2 _ _ ?_
      clear hK2 K2
      simp only [Act.put, List.setIfInBounds_toArray, List.set_cons_zero, List.set_cons_succ]
      have hS := sB _ _ hS (oz.below la)
      have own8 := own_only own8 oz (own_ne own8 ra (by decide))
      refine ⟨hS, wpAnyH_done (by kernel_rfl) ?_ _⟩
      exact HK.out _ _ (Met.intro (HJ.out _ _ ⟨_, _, _, _, _, _, hS, rz, own8, rfl⟩))
 case rest =>
  rintro a W9 ⟨u52, u55, u57, ga, g8, cap8, hT9, ra, own8, rfl⟩
  obtain ⟨A2, cap2, hv8, hr2, hc2, hm2, hn2⟩ := own_ev own8
  injection hv8 with e8 _ e9
  subst e8 e9
  have bel9 := tB _ hT9
  have rd2 : Rd W9 (some ⟨g8, 0, none⟩) (ints (p.V ++ [ty])) := by rw [ints_append]; exact hr2
  have Hc2 := Lib.hid hc2
  have Hm2 := Lib.hid hm2
  have hqc : (PgV.mk p.params (some ⟨g8, 0, none⟩) cap8 (p.V ++ [ty]) p.ba p.bcap p.body).cells = #[.int .i64 p.params, .slice (some ⟨g8, 0, none⟩) (p.V.length + 1) cap8, .slice p.ba p.body.length p.bcap] := by simp [PgV.cells]
  rw [← hqc] at ra
  have Hra := Lib.hid ra
  clear hqc hT9 t0 sz sB tB stT hT5 own8 hr2 hc2 hm2 hn2 ra
  have hprev := st3.go HS3.out (bel9)
  obtain ⟨S4, hSd⟩ : ∃ S : World → Prop, S = (fun W => S3 W ∧ Row W ga 25 (PgV.mk p.params (some ⟨g8, 0, none⟩) cap8 (p.V ++ [ty]) p.ba p.bcap p.body).cells ∧ Rd W (some ⟨g8, 0, none⟩) (ints (p.V ++ [ty]))) := ⟨_, rfl⟩
  have st4 : St S4 := by rw [hSd]; infer_instance
  have D4 : Hid (∀ W, S4 W → S3 W) := by show ∀ W, _; rw [hSd]; exact fun W h => h.1
  have F_Q : Hid (∀ W, S4 W → Row W ga 25 (PgV.mk p.params (some ⟨g8, 0, none⟩) cap8 (p.V ++ [ty]) p.ba p.bcap p.body).cells) := by show ∀ W, _; rw [hSd]; exact fun W h => h.2.1
  have F_vq : Hid (∀ W, S4 W → Rd W (some ⟨g8, 0, none⟩) (ints (p.V ++ [ty]))) := by show ∀ W, _; rw [hSd]; exact fun W h => h.2.2
  have HS4 : Hid (S4 W9) := by show S4 W9; rw [hSd]; exact ⟨hprev, Hra.out, rd2⟩
  clear hSd
  clear hprev HS3 Hra rd2 bel9
  have hqok : Hid (∀ W, S4 W → (PgV.mk p.params (some ⟨g8, 0, none⟩) cap8 (p.V ++ [ty]) p.ba p.bcap p.body).ok W) := by
   show ∀ W, _
   intro W hW
   have h := (F_ok.out _ (D1.out _ (D2.out _ (D3.out _ (D4.out _ hW)))))
   exact ⟨h.par, by simpa using Hc2.out, Hm2.out, fun e => (by cases e), (F_vq.out _ hW), fun y hy => by rcases List.mem_append.1 hy with hy | hy; exact h.vin y hy; rw [List.mem_singleton.1 hy]; exact HtyI.out, h.blen, h.bmax, h.bnil, h.brd, h.bin⟩
  have F_qok := hqok
  clear hqok
  have HLq := HL.out (PgV.mk p.params (some ⟨g8, 0, none⟩) cap8 (p.V ++ [ty]) p.ba p.bcap p.body) rfl rfl rfl
  have HLQ := Lib.hid HLq
  clear HLq
  go_wp2_with (refine wpList_load_row rfl 25 _ rfl ga rfl 25 (PgV.mk p.params (some ⟨g8, 0, none⟩) cap8 (p.V ++ [ty]) p.ba p.bcap p.body).cells (0, 0) _ (F_Q.out _ HS4.out) Try.underlying25 rfl (by kernel_rfl) ?_)
  refine (dRunA (PgV.mk p.params (some ⟨g8, 0, none⟩) cap8 (p.V ++ [ty]) p.ba p.bcap p.body) aa acap args fuel W9 (by show p.body.length ≤ 1000; have := Hbl.out; omega) (by have := Hal.out; omega) (F_qok.out _ HS4.out) (F_rda.out _ (D1.out _ (D2.out _ (D3.out _ (D4.out _ HS4.out))))) Hin.out).mono ?_
  rintro e w_9 ⟨A_b, c_b, rfl, hrd, hle_b, hmx_b, hni_b, bb⟩
  have hprev := st4.go HS4.out (bb)
  obtain ⟨S5, hSd⟩ : ∃ S : World → Prop, S = (fun W => S4 W ∧ Rd3 ((runZ (PgV.mk p.params (some ⟨g8, 0, none⟩) cap8 (p.V ++ [ty]) p.ba p.bcap p.body) args fuel).rv A_b c_b) W) := ⟨_, rfl⟩
  have st5 : St S5 := by rw [hSd]; infer_instance
  have D5 : Hid (∀ W, S5 W → S4 W) := by show ∀ W, _; rw [hSd]; exact fun W h => h.1
  have F_rd_b : Hid (∀ W, S5 W → Rd3 ((runZ (PgV.mk p.params (some ⟨g8, 0, none⟩) cap8 (p.V ++ [ty]) p.ba p.bcap p.body) args fuel).rv A_b c_b) W) := by show ∀ W, _; rw [hSd]; exact fun W h => h.2
  have HS5 : Hid (S5 w_9) := by show S5 w_9; rw [hSd]; exact ⟨hprev, hrd⟩
  clear hSd
  clear hprev HS4 bb hrd
  go_wp2_with (refine at_alloc _ rfl ?_)
  refine Stop.to ?_
  refine wpList_alloc_gen rfl 32 rfl _ _ zero_run2 rfl ?_
  intro G_10 w_11 hG rG bG
  go_wp2_with (refine at_store _ _ _ rfl ?_)
  refine Stop.to ?_
  refine wpList_store_gen rfl 32 _ _ rfl G_10 ((runZ (PgV.mk p.params (some ⟨g8, 0, none⟩) cap8 (p.V ++ [ty]) p.ba p.bcap p.body) args fuel).rv A_b c_b).cells rfl rfl 32 _ rG (by kernel_rfl) rfl (rv_one _) ?_
  intro w_12 rH oH
  have bH : Below (w_9).heap.size w_9 w_12 := (bG.mono hG).trans (oH.below hG)
  have hprev := st5.go HS5.out (bH)
  obtain ⟨S6, hSd⟩ : ∃ S : World → Prop, S = (fun W => S5 W ∧ Row W G_10 32 ((runZ (PgV.mk p.params (some ⟨g8, 0, none⟩) cap8 (p.V ++ [ty]) p.ba p.bcap p.body) args fuel).rv A_b c_b).cells) := ⟨_, rfl⟩
  have st6 : St S6 := by rw [hSd]; infer_instance
  have D6 : Hid (∀ W, S6 W → S5 W) := by show ∀ W, _; rw [hSd]; exact fun W h => h.1
  have F_b : Hid (∀ W, S6 W → Row W G_10 32 ((runZ (PgV.mk p.params (some ⟨g8, 0, none⟩) cap8 (p.V ++ [ty]) p.ba p.bcap p.body) args fuel).rv A_b c_b).cells) := by show ∀ W, _; rw [hSd]; exact fun W h => h.2
  have HS6 : Hid (S6 w_12) := by show S6 w_12; rw [hSd]; exact ⟨hprev, rH⟩
  clear hSd
  clear hprev HS5 hG rG bG rH oH bH
  rw [HLQ.out.1]
  go_wp2_with (first | (refine wpList_load_row rfl 32 _ rfl G_6 rfl 32 ((runZ p args fuel).rv A_a c_a).cells (0, 0) _ (F_a.out _ (D4.out _ (D5.out _ (D6.out _ HS6.out)))) Try.underlying32 rfl (by kernel_rfl) ?_) | (refine wpList_load_row rfl 32 _ rfl G_10 rfl 32 ((runZ (PgV.mk p.params (some ⟨g8, 0, none⟩) cap8 (p.V ++ [ty]) p.ba p.bcap p.body) args fuel).rv A_b c_b).cells (0, 0) _ (F_b.out _ HS6.out) Try.underlying32 rfl (by kernel_rfl) ?_))
  refine (refSame_any ((runZ p args fuel).rv A_a c_a) ((runZ (PgV.mk p.params (some ⟨g8, 0, none⟩) cap8 (p.V ++ [ty]) p.ba p.bcap p.body) args fuel).rv A_b c_b) w_12 (F_rd_a.out _ (D3.out _ (D4.out _ (D5.out _ (D6.out _ HS6.out))))) (F_rd_b.out _ (D6.out _ HS6.out)) (run_few _ _ _)).mono ?_
  rintro e w_13 ⟨β, hβ, rfl, bb⟩
  obtain rfl : β = true := hβ.2 HLQ.out.2.evs.symm
  rw [sameB_same ⟨HLQ.out.2.out.symm, HLQ.out.2.steps.symm, HLQ.out.2.evs.symm⟩]
  have hprev := st6.go HS6.out (bb)
  replace HS6 := Lib.hid hprev
  clear hprev bb hβ
  go_wp2_with fail
  refine region_hold S6 (by kernel_rfl) (by kernel_rfl) (St.drew HS6.out) ?_
  have hc8 : (p.V.length : Int) ≤ (cap8 : Int) := by have := Hc2.out; omega
  have hc9 : p.V.length ≤ cap8 := by have := Hc2.out; omega
  (refine hold_value rfl ?_ (fun W hW => ?_) ?_; rotate_left; (focus (go_simp; exact rfl)); simp only [Act.put, List.setIfInBounds_toArray, List.set_cons_zero, List.set_cons_succ])
  (refine hold_value rfl ?_ (fun W hW => ?_) ?_; rotate_left; (focus (have c := (F_Q.out _ (D5.out _ (D6.out _ hW))).cellv (i := 1) (v := .slice (some ⟨g8, 0, none⟩) (p.V ++ [ty]).length cap8) rfl; go_simp; exact rfl)); simp only [Act.put, List.setIfInBounds_toArray, List.set_cons_zero, List.set_cons_succ])
  (refine hold_value rfl ?_ (fun W hW => ?_) ?_; rotate_left; (focus (go_simp; exact rfl)); simp only [Act.put, List.setIfInBounds_toArray, List.set_cons_zero, List.set_cons_succ])
  (refine hold_value rfl ?_ (fun W hW => ?_) ?_; rotate_left; (focus (have c := (F_P.out _ (D2.out _ (D3.out _ (D4.out _ (D5.out _ (D6.out _ hW)))))).cellv (i := 1) (v := .slice p.va p.V.length p.vcap) rfl; go_simp; exact rfl)); simp only [Act.put, List.setIfInBounds_toArray, List.set_cons_zero, List.set_cons_succ])
  (refine hold_value rfl ?_ (fun W hW => ?_) ?_; rotate_left; (focus (go_simp; exact rfl)); simp only [Act.put, List.setIfInBounds_toArray, List.set_cons_zero, List.set_cons_succ])
  (refine hold_value rfl (.slice (some ⟨g8, 0, none⟩) p.V.length cap8) (fun W hW => by (go_simp; try exact rfl)) ?_; simp only [Act.put, List.setIfInBounds_toArray, List.set_cons_zero, List.set_cons_succ])
  (refine hold_value rfl ?_ (fun W hW => ?_) ?_; rotate_left; (focus (go_simp; exact rfl)); simp only [Act.put, List.setIfInBounds_toArray, List.set_cons_zero, List.set_cons_succ])
  (refine hold_value rfl ?_ (fun W hW => ?_) ?_; rotate_left; (focus (have c := (F_P.out _ (D2.out _ (D3.out _ (D4.out _ (D5.out _ (D6.out _ hW)))))).cellv (i := 1) (v := .slice p.va p.V.length p.vcap) rfl; go_simp; exact rfl)); simp only [Act.put, List.setIfInBounds_toArray, List.set_cons_zero, List.set_cons_succ])
  (refine hold_call_new rfl 26 _ (fun W => by (go_simp; try rfl)) ((.bool true)) (fun W hW => by have := refInts_any (some ⟨g8, 0, none⟩) p.va cap8 p.vcap p.V.length p.V.length p.V p.V W rfl rfl (fun j u hj => (F_vq.out _ (D5.out _ (D6.out _ hW))) j u (by rw [ints_append, List.getElem?_append_left (List.getElem?_eq_some_iff.1 hj).1]; exact hj)) (F_ok.out _ (D1.out _ (D2.out _ (D3.out _ (D4.out _ (D5.out _ (D6.out _ hW))))))).vrd (by have := HVl.out; omega); simpa using this) ?_; simp only [Act.put, List.setIfInBounds_toArray, List.set_cons_zero, List.set_cons_succ])
  (refine hold_value rfl ?_ (fun W hW => ?_) ?_; rotate_left; (focus (go_simp; exact rfl)); simp only [Act.put, List.setIfInBounds_toArray, List.set_cons_zero, List.set_cons_succ])
  refine wpHold_nil fun W8 hW8 => ?_
  clear HS6
  have HS6 : Hid (S6 W8) := hW8
  clear hW8 hc8 hc9
  go_wp2_with fail
  go_ret
  exact ⟨rfl, (F_low.out _ (D1.out _ (D2.out _ (D3.out _ (D4.out _ (D5.out _ (D6.out _ HS6.out)))))))⟩
end Go.Proofs.Ytlglilmgklipdaa
