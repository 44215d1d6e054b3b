/- Lemmas for CoAll. -/
import Derived.Test.YtcgglolckkeeiaaGreatZo30
import Derived.Test.YtcgglolckkeeiaaGreatZo26
set_option linter.unusedVariables false
set_option linter.unusedSimpArgs false
namespace Go.Proofs.YtcgglolckkeeiaaGreat
open Go.RowKit Go.Deep
theorem step_no {α : Type} {r : Rs} (h : ¬ r.er = 0) (p : Int × Nat × α) (z : α) : r.step p z = (z, r) := by
 unfold Rs.step; rw [move_no h, if_neg h]
theorem step_fst {α : Type} (r : Rs) (p : Int × Nat × α) (z : α) : (r.step p z).1 = if (r.move p.2.1 p.1).er = 0 then p.2.2 else z := rfl
set_option maxRecDepth 100000 in
set_option maxHeartbeats 4000000 in
theorem ask_gen (k : Int) (s : List UInt8) (r r2 : Rs) (n : Nat) (i v : Int) (hdo : ∀ w, Calls Tryz.prog 145 #[.agg (rrC s r), .agg (opC k 1000000)] w fun e w' => e = .returned (.tuple #[.agg (rrC s r2), .agg (gotC n i [])]) ∧ Below w.heap.size w w')
 (hn : n ≤ 1048576) (hz : ¬ r2.er = 0 → v = -1) (h3 : r2.er = 0 → k = 3 → v = i) (hk : r2.er = 0 → ¬ k = 3 → v = (n : Int)) (w : World) :
 Calls Tryz.prog 98 #[.agg (rrC s r), .int .i64 k] w fun e w' => e = .returned (.tuple #[.agg (rrC s r2), .int .i64 v]) ∧ Below w.heap.size w w' := by
 obtain ⟨x, hx⟩ : ∃ x : List UInt8, x = [] := ⟨_, rfl⟩
 rw [← hx] at hdo
 obtain ⟨pl, er⟩ := r
 obtain ⟨q, er2⟩ := r2
 dsimp only at hz h3 hk
 have HD := Lib.hid hdo
 have H3 := Lib.hid h3
 have HK := Lib.hid hk
 have hwn : IntKind.i64.wrap (n : Int) = (n : Int) := IntWalk.i64_in _ (by omega)
 clear hdo hx h3 hk
 show Calls _ _ #[.agg #[.string ⟨s.toArray⟩, .int .i64 (pl : Int), .int .i64 er], .int .i64 k] _ _
 by_cases h0 : er2 = 0
 · subst h0
   clear hz
   by_cases hk3 : k = 3
   · subst hk3
     obtain rfl : i = v := (H3.out rfl rfl).symm
     clear H3 HK
     go_enter Tryz.func98, Tryz.ntmps98
     go_wp2_with (refine at_box _ _ rfl ?_)
     refine Stop.to ?_
     refine wpList_box_gen rfl 131 _ rfl #[.string ⟨s.toArray⟩, .int .i64 (pl : Int), .int .i64 er] rfl ?_
     intro G Gw Gh Gr Gb
     go_wp2_with (first | fail | (refine at_alloc _ rfl ?_))
     refine Stop.to ?_
     refine wpList_alloc_gen rfl 131 rfl _ _ (zero_rr _) rfl ?_
     intro R Rw Rh Rr Rb
     have Rr' : Row Rw R 131 #[.string ⟨#[]⟩, .int .i64 0, .int .i64 0] := Rr
     have lGR : G < R := Nat.lt_of_lt_of_le Gr.lt Rh
     have rG := Gr.below Rb lGR
     have rR := Rr'
     have bb : Below w.heap.size w Rw := ((Below.refl w.heap.size w).trans (Gb.mono Gh)).trans (Rb.mono (by omega))
     clear Gr Rr Gb Rb Rr'
     have hz : (Instr.build 192 #[(0, .int .i64 3), (1, .int .i64 1000000)]).run Tryz.prog Rw = .ok (.agg #[.int .i64 3, .int .i64 1000000]) Rw := by kernel_rfl
     go_wp2_with (refine wpList_load_row rfl 131 _ rfl G rfl 131 #[.string ⟨s.toArray⟩, .int .i64 (pl : Int), .int .i64 er] (0, 0) _ rG Tryz.underlying131 rfl (by kernel_rfl) ?_)
     refine (HD.out Rw).mono ?_
     rintro e w3 ⟨rfl, b3⟩
     replace rR := rR.below b3 rR.lt
     replace bb := bb.trans (b3.mono bb.size)
     have hR3 : R < w3.heap.size := rR.lt
     clear rG b3 hz
     dsimp only [rrC, gotC]
     go_wp2_with (first | fail | (refine at_alloc _ rfl ?_))
     refine Stop.to ?_
     refine wpList_alloc_gen rfl 131 rfl _ _ (zero_rr _) rfl ?_
     intro X Xw Xh Xr Xb
     go_wp2_with (first | fail | (refine at_alloc _ rfl ?_))
     refine Stop.to ?_
     refine wpList_alloc_gen rfl 188 rfl _ _ (zero_got _) rfl ?_
     intro Y Yw Yh Yr Yb
     have Xr' : Row Xw X 131 #[.string ⟨#[]⟩, .int .i64 0, .int .i64 0] := Xr
     have Yr' : Row Yw Y 188 #[.int .u64 0, .int .i64 0, .string ⟨#[]⟩, .int .i64 0, .int .i64 0] := Yr
     have lRX : R < X := by omega
     have lXY : X < Y := Nat.lt_of_lt_of_le Xr'.lt Yh
     replace rR := (rR.below Xb (by omega)).below Yb (by omega)
     have rX := Xr'.below Yb lXY
     have rY := Yr'
     replace bb := (bb.trans (Xb.mono (by have := bb.size; omega))).trans (Yb.mono (by have := bb.size; omega))
     clear Xr Yr Xb Yb Xr' Yr'
     go_wp2_with (refine at_store 131 _ _ rfl ?_)
     refine Stop.to ?_
     refine wpList_store_gen rfl 131 _ _ rfl X #[.string ⟨s.toArray⟩, .int .i64 (q : Int), .int .i64 0] rfl rfl 131 _ rX (by kernel_rfl) rfl (by simp [Value.oneCell']) ?_
     intro w4 rX4 o4
     replace rR := rR.only o4 (by omega)
     replace rY := rY.only o4 (by omega)
     replace bb := below_only bb o4 (by omega)
     clear rX o4
     go_wp2_with (refine at_store 188 _ _ rfl ?_)
     refine Stop.to ?_
     refine wpList_store_gen rfl 188 _ _ rfl Y #[.int .u64 (n : Int), .int .i64 i, .string ⟨x.toArray⟩, .int .i64 0, .int .i64 0] rfl rfl 188 _ rY (by kernel_rfl) rfl (by simp [Value.oneCell']) ?_
     intro w6 rY o6
     replace rR := rR.only o6 (by omega)
     replace bb := below_only bb o6 (by omega)
     have rX := rX4.only o6 (by omega)
     clear rX4 o6
     have cX2 := rX.cellv (i := 2) (v := .int .i64 0) rfl
     go_wp2_with fail
     clear cX2
     obtain ⟨S, hSd⟩ : ∃ S, S = (fun W => Row W X 131 #[.string ⟨s.toArray⟩, .int .i64 (q : Int), .int .i64 0] ∧ Row W Y 188 #[.int .u64 (n : Int), .int .i64 i, .string ⟨x.toArray⟩, .int .i64 0, .int .i64 0] ∧ Below w.heap.size w W) := ⟨_, rfl⟩
     have stS : St S := by rw [hSd]; infer_instance
     have T0 : Hid (∀ W, S W → Row W X 131 #[.string ⟨s.toArray⟩, .int .i64 (q : Int), .int .i64 0]) := by show ∀ W, _; rw [hSd]; exact fun W h => h.1
     have T1 : Hid (∀ W, S W → Row W Y 188 #[.int .u64 (n : Int), .int .i64 i, .string ⟨x.toArray⟩, .int .i64 0, .int .i64 0]) := by show ∀ W, _; rw [hSd]; exact fun W h => h.2.1
     have T4 : Hid (∀ W, S W → Below w.heap.size w W) := by show ∀ W, _; rw [hSd]; exact fun W h => h.2.2
     have SMK : Hid (∀ W, Row W X 131 #[.string ⟨s.toArray⟩, .int .i64 (q : Int), .int .i64 0] → Row W Y 188 #[.int .u64 (n : Int), .int .i64 i, .string ⟨x.toArray⟩, .int .i64 0, .int .i64 0] → Below w.heap.size w W → S W) := by show ∀ W, _; rw [hSd]; exact fun W h h2 h3 => ⟨h, h2, h3⟩
     have hS := St.drew (SMK.out _ rX rY bb)
     replace rR := rR.drew
     clear hSd rX rY bb
     refine wp_region_held (S := S) (by kernel_rfl) ?_
     simp only [List.size_toArray, List.length_cons, List.length_nil, Nat.reduceAdd, Array.replicate_succ, Array.replicate_zero, List.push_toArray, List.nil_append, List.cons_append]
     show wpAnyH _ _ _ _ _ _ _ _ (w6).drew
     generalize (w6).drew = w5 at hS rR ⊢
     (refine takeH (i := 0) (v := _) rfl (by kernel_rfl) (by kernel_rfl) (by kernel_rfl) (fun _ _ _ h => h) ((yields_row rfl 131 _ rfl X rfl 131 #[.string ⟨s.toArray⟩, .int .i64 (q : Int), .int .i64 0] _ T0.out Tryz.underlying131 rfl (by kernel_rfl))) (by assumption) ?_; simp only [Act.put, List.setIfInBounds_toArray, List.set_cons_zero, List.set_cons_succ])
     (refine takeH (i := 1) (v := .pointer (some ⟨Y, 1, none⟩)) rfl (by kernel_rfl) (by kernel_rfl) (by kernel_rfl) (fun _ _ _ h => h) (yields_val rfl (fun W hW => by (go_simp))) (by assumption) ?_; simp only [Act.put, List.setIfInBounds_toArray, List.set_cons_zero, List.set_cons_succ])
     (refine takeH (i := 2) (v := .int .i64 i) rfl (by kernel_rfl) (by kernel_rfl) (by kernel_rfl) (fun _ _ _ h => h) (yields_val rfl (fun W hW => by ((have h := (T1.out W hW).cellv (i := 1) (v := .int .i64 i) rfl; go_simp)))) (by assumption) ?_; simp only [Act.put, List.setIfInBounds_toArray, List.set_cons_zero, List.set_cons_succ])
     (refine wpAnyH_all (rs := [3]) (by kernel_rfl) (by simp) (fun i hi => ?_); obtain rfl : i = 3 := by simpa using hi)
     refine wpOp_plain rfl rfl (fun K2 hK2 => ?_)
     refine wp_store_gen 131 _ _ rfl R #[.string ⟨s.toArray⟩, .int .i64 (q : Int), .int .i64 0] rfl rfl 131 _ rR (by kernel_rfl) rfl (by simp [Value.oneCell']) ?_
     intro w6 rR6 o6
     refine hK2 _ _ ?_
     clear hK2 K2
     simp only [Act.put, List.setIfInBounds_toArray, List.set_cons_zero, List.set_cons_succ]
     have hS6 : S w6 := SMK.out _ ((T0.out _ hS).only o6 (by omega)) ((T1.out _ hS).only o6 (by omega)) (below_only (T4.out _ hS) o6 (by omega))
     refine ⟨hS6, ?_⟩
     (refine takeH (i := 4) (v := .int .i64 i) rfl (by kernel_rfl) (by kernel_rfl) (by kernel_rfl) (fun _ _ _ h => h) (yields_val rfl (fun W hW => by (go_simp))) (by assumption) ?_; simp only [Act.put, List.setIfInBounds_toArray, List.set_cons_zero, List.set_cons_succ])
     refine wpAnyH_done (by kernel_rfl) ?_ _
     have bE := T4.out _ hS6
     go_wp2_with fail
     refine bodyPost_ret (results_cell_tmp Tryz.results98 _ _ R 131 _ (0, 0) _ rfl rR6 Tryz.underlying131 rfl (by kernel_rfl)) rfl ?_
     exact ⟨rfl, bE⟩
   · obtain rfl := HK.out rfl hk3
     clear H3 HK
     go_enter Tryz.func98, Tryz.ntmps98
     go_wp2_with (refine at_box _ _ rfl ?_)
     refine Stop.to ?_
     refine wpList_box_gen rfl 131 _ rfl #[.string ⟨s.toArray⟩, .int .i64 (pl : Int), .int .i64 er] rfl ?_
     intro G Gw Gh Gr Gb
     go_wp2_with (first | fail | (refine at_alloc _ rfl ?_))
     refine Stop.to ?_
     refine wpList_alloc_gen rfl 131 rfl _ _ (zero_rr _) rfl ?_
     intro R Rw Rh Rr Rb
     have Rr' : Row Rw R 131 #[.string ⟨#[]⟩, .int .i64 0, .int .i64 0] := Rr
     have lGR : G < R := Nat.lt_of_lt_of_le Gr.lt Rh
     have rG := Gr.below Rb lGR
     have rR := Rr'
     have bb : Below w.heap.size w Rw := ((Below.refl w.heap.size w).trans (Gb.mono Gh)).trans (Rb.mono (by omega))
     clear Gr Rr Gb Rb Rr'
     have hz : (Instr.build 192 #[(0, .int .i64 k), (1, .int .i64 1000000)]).run Tryz.prog Rw = .ok (.agg #[.int .i64 k, .int .i64 1000000]) Rw := by kernel_rfl
     go_wp2_with (refine wpList_load_row rfl 131 _ rfl G rfl 131 #[.string ⟨s.toArray⟩, .int .i64 (pl : Int), .int .i64 er] (0, 0) _ rG Tryz.underlying131 rfl (by kernel_rfl) ?_)
     refine (HD.out Rw).mono ?_
     rintro e w3 ⟨rfl, b3⟩
     replace rR := rR.below b3 rR.lt
     replace bb := bb.trans (b3.mono bb.size)
     have hR3 : R < w3.heap.size := rR.lt
     clear rG b3 hz
     dsimp only [rrC, gotC]
     go_wp2_with (first | fail | (refine at_alloc _ rfl ?_))
     refine Stop.to ?_
     refine wpList_alloc_gen rfl 131 rfl _ _ (zero_rr _) rfl ?_
     intro X Xw Xh Xr Xb
     go_wp2_with (first | fail | (refine at_alloc _ rfl ?_))
     refine Stop.to ?_
     refine wpList_alloc_gen rfl 188 rfl _ _ (zero_got _) rfl ?_
     intro Y Yw Yh Yr Yb
     have Xr' : Row Xw X 131 #[.string ⟨#[]⟩, .int .i64 0, .int .i64 0] := Xr
     have Yr' : Row Yw Y 188 #[.int .u64 0, .int .i64 0, .string ⟨#[]⟩, .int .i64 0, .int .i64 0] := Yr
     have lRX : R < X := by omega
     have lXY : X < Y := Nat.lt_of_lt_of_le Xr'.lt Yh
     replace rR := (rR.below Xb (by omega)).below Yb (by omega)
     have rX := Xr'.below Yb lXY
     have rY := Yr'
     replace bb := (bb.trans (Xb.mono (by have := bb.size; omega))).trans (Yb.mono (by have := bb.size; omega))
     clear Xr Yr Xb Yb Xr' Yr'
     go_wp2_with (refine at_store 131 _ _ rfl ?_)
     refine Stop.to ?_
     refine wpList_store_gen rfl 131 _ _ rfl X #[.string ⟨s.toArray⟩, .int .i64 (q : Int), .int .i64 0] rfl rfl 131 _ rX (by kernel_rfl) rfl (by simp [Value.oneCell']) ?_
     intro w4 rX4 o4
     replace rR := rR.only o4 (by omega)
     replace rY := rY.only o4 (by omega)
     replace bb := below_only bb o4 (by omega)
     clear rX o4
     go_wp2_with (refine at_store 188 _ _ rfl ?_)
     refine Stop.to ?_
     refine wpList_store_gen rfl 188 _ _ rfl Y #[.int .u64 (n : Int), .int .i64 i, .string ⟨x.toArray⟩, .int .i64 0, .int .i64 0] rfl rfl 188 _ rY (by kernel_rfl) rfl (by simp [Value.oneCell']) ?_
     intro w6 rY o6
     replace rR := rR.only o6 (by omega)
     replace bb := below_only bb o6 (by omega)
     have rX := rX4.only o6 (by omega)
     clear rX4 o6
     have cX2 := rX.cellv (i := 2) (v := .int .i64 0) rfl
     go_wp2_with fail
     clear cX2
     obtain ⟨S, hSd⟩ : ∃ S, S = (fun W => Row W X 131 #[.string ⟨s.toArray⟩, .int .i64 (q : Int), .int .i64 0] ∧ Row W Y 188 #[.int .u64 (n : Int), .int .i64 i, .string ⟨x.toArray⟩, .int .i64 0, .int .i64 0] ∧ Below w.heap.size w W) := ⟨_, rfl⟩
     have stS : St S := by rw [hSd]; infer_instance
     have T0 : Hid (∀ W, S W → Row W X 131 #[.string ⟨s.toArray⟩, .int .i64 (q : Int), .int .i64 0]) := by show ∀ W, _; rw [hSd]; exact fun W h => h.1
     have T1 : Hid (∀ W, S W → Row W Y 188 #[.int .u64 (n : Int), .int .i64 i, .string ⟨x.toArray⟩, .int .i64 0, .int .i64 0]) := by show ∀ W, _; rw [hSd]; exact fun W h => h.2.1
     have T4 : Hid (∀ W, S W → Below w.heap.size w W) := by show ∀ W, _; rw [hSd]; exact fun W h => h.2.2
     have SMK : Hid (∀ W, Row W X 131 #[.string ⟨s.toArray⟩, .int .i64 (q : Int), .int .i64 0] → Row W Y 188 #[.int .u64 (n : Int), .int .i64 i, .string ⟨x.toArray⟩, .int .i64 0, .int .i64 0] → Below w.heap.size w W → S W) := by show ∀ W, _; rw [hSd]; exact fun W h h2 h3 => ⟨h, h2, h3⟩
     have hS := St.drew (SMK.out _ rX rY bb)
     replace rR := rR.drew
     clear hSd rX rY bb
     refine wp_region_held (S := S) (by kernel_rfl) ?_
     simp only [List.size_toArray, List.length_cons, List.length_nil, Nat.reduceAdd, Array.replicate_succ, Array.replicate_zero, List.push_toArray, List.nil_append, List.cons_append]
     show wpAnyH _ _ _ _ _ _ _ _ (w6).drew
     generalize (w6).drew = w5 at hS rR ⊢
     (refine takeH (i := 0) (v := _) rfl (by kernel_rfl) (by kernel_rfl) (by kernel_rfl) (fun _ _ _ h => h) ((yields_row rfl 131 _ rfl X rfl 131 #[.string ⟨s.toArray⟩, .int .i64 (q : Int), .int .i64 0] _ T0.out Tryz.underlying131 rfl (by kernel_rfl))) (by assumption) ?_; simp only [Act.put, List.setIfInBounds_toArray, List.set_cons_zero, List.set_cons_succ])
     (refine takeH (i := 1) (v := .pointer (some ⟨Y, 0, none⟩)) rfl (by kernel_rfl) (by kernel_rfl) (by kernel_rfl) (fun _ _ _ h => h) (yields_val rfl (fun W hW => by (go_simp))) (by assumption) ?_; simp only [Act.put, List.setIfInBounds_toArray, List.set_cons_zero, List.set_cons_succ])
     (refine takeH (i := 2) (v := .int .u64 (n : Int)) rfl (by kernel_rfl) (by kernel_rfl) (by kernel_rfl) (fun _ _ _ h => h) (yields_val rfl (fun W hW => by ((have h := (T1.out W hW).cellv (i := 0) (v := .int .u64 (n : Int)) rfl; go_simp)))) (by assumption) ?_; simp only [Act.put, List.setIfInBounds_toArray, List.set_cons_zero, List.set_cons_succ])
     (refine takeH (i := 3) (v := .int .i64 (n : Int)) rfl (by kernel_rfl) (by kernel_rfl) (by kernel_rfl) (fun _ _ _ h => h) (yields_val rfl (fun W hW => by (go_simp))) (by assumption) ?_; simp only [Act.put, List.setIfInBounds_toArray, List.set_cons_zero, List.set_cons_succ])
     (refine wpAnyH_all (rs := [4]) (by kernel_rfl) (by simp) (fun i hi => ?_); obtain rfl : i = 4 := by simpa using hi)
     refine wpOp_plain rfl rfl (fun K2 hK2 => ?_)
     refine wp_store_gen 131 _ _ rfl R #[.string ⟨s.toArray⟩, .int .i64 (q : Int), .int .i64 0] rfl rfl 131 _ rR (by kernel_rfl) rfl (by simp [Value.oneCell']) ?_
     intro w6 rR6 o6
     refine hK2 _ _ ?_
     clear hK2 K2
     simp only [Act.put, List.setIfInBounds_toArray, List.set_cons_zero, List.set_cons_succ]
     have hS6 : S w6 := SMK.out _ ((T0.out _ hS).only o6 (by omega)) ((T1.out _ hS).only o6 (by omega)) (below_only (T4.out _ hS) o6 (by omega))
     refine ⟨hS6, ?_⟩
     (refine takeH (i := 5) (v := .int .i64 (n : Int)) rfl (by kernel_rfl) (by kernel_rfl) (by kernel_rfl) (fun _ _ _ h => h) (yields_val rfl (fun W hW => by (go_simp))) (by assumption) ?_; simp only [Act.put, List.setIfInBounds_toArray, List.set_cons_zero, List.set_cons_succ])
     refine wpAnyH_done (by kernel_rfl) ?_ _
     have bE := T4.out _ hS6
     go_wp2_with fail
     refine bodyPost_ret (results_cell_tmp Tryz.results98 _ _ R 131 _ (0, 0) _ rfl rR6 Tryz.underlying131 rfl (by kernel_rfl)) rfl ?_
     exact ⟨rfl, bE⟩
 · obtain rfl := hz h0
   clear H3 HK hz
   go_enter Tryz.func98, Tryz.ntmps98
   go_wp2_with (refine at_box _ _ rfl ?_)
   refine Stop.to ?_
   refine wpList_box_gen rfl 131 _ rfl #[.string ⟨s.toArray⟩, .int .i64 (pl : Int), .int .i64 er] rfl ?_
   intro G Gw Gh Gr Gb
   go_wp2_with (first | fail | (refine at_alloc _ rfl ?_))
   refine Stop.to ?_
   refine wpList_alloc_gen rfl 131 rfl _ _ (zero_rr _) rfl ?_
   intro R Rw Rh Rr Rb
   have Rr' : Row Rw R 131 #[.string ⟨#[]⟩, .int .i64 0, .int .i64 0] := Rr
   have lGR : G < R := Nat.lt_of_lt_of_le Gr.lt Rh
   have rG := Gr.below Rb lGR
   have rR := Rr'
   have bb : Below w.heap.size w Rw := ((Below.refl w.heap.size w).trans (Gb.mono Gh)).trans (Rb.mono (by omega))
   clear Gr Rr Gb Rb Rr'
   have hz : (Instr.build 192 #[(0, .int .i64 k), (1, .int .i64 1000000)]).run Tryz.prog Rw = .ok (.agg #[.int .i64 k, .int .i64 1000000]) Rw := by kernel_rfl
   go_wp2_with (refine wpList_load_row rfl 131 _ rfl G rfl 131 #[.string ⟨s.toArray⟩, .int .i64 (pl : Int), .int .i64 er] (0, 0) _ rG Tryz.underlying131 rfl (by kernel_rfl) ?_)
   refine (HD.out Rw).mono ?_
   rintro e w3 ⟨rfl, b3⟩
   replace rR := rR.below b3 rR.lt
   replace bb := bb.trans (b3.mono bb.size)
   have hR3 : R < w3.heap.size := rR.lt
   clear rG b3 hz
   dsimp only [rrC, gotC]
   go_wp2_with (first | fail | (refine at_alloc _ rfl ?_))
   refine Stop.to ?_
   refine wpList_alloc_gen rfl 131 rfl _ _ (zero_rr _) rfl ?_
   intro X Xw Xh Xr Xb
   go_wp2_with (first | fail | (refine at_alloc _ rfl ?_))
   refine Stop.to ?_
   refine wpList_alloc_gen rfl 188 rfl _ _ (zero_got _) rfl ?_
   intro Y Yw Yh Yr Yb
   have Xr' : Row Xw X 131 #[.string ⟨#[]⟩, .int .i64 0, .int .i64 0] := Xr
   have Yr' : Row Yw Y 188 #[.int .u64 0, .int .i64 0, .string ⟨#[]⟩, .int .i64 0, .int .i64 0] := Yr
   have lRX : R < X := by omega
   have lXY : X < Y := Nat.lt_of_lt_of_le Xr'.lt Yh
   replace rR := (rR.below Xb (by omega)).below Yb (by omega)
   have rX := Xr'.below Yb lXY
   have rY := Yr'
   replace bb := (bb.trans (Xb.mono (by have := bb.size; omega))).trans (Yb.mono (by have := bb.size; omega))
   clear Xr Yr Xb Yb Xr' Yr'
   go_wp2_with (refine at_store 131 _ _ rfl ?_)
   refine Stop.to ?_
   refine wpList_store_gen rfl 131 _ _ rfl X #[.string ⟨s.toArray⟩, .int .i64 (q : Int), .int .i64 er2] rfl rfl 131 _ rX (by kernel_rfl) rfl (by simp [Value.oneCell']) ?_
   intro w4 rX4 o4
   replace rR := rR.only o4 (by omega)
   replace rY := rY.only o4 (by omega)
   replace bb := below_only bb o4 (by omega)
   clear rX o4
   go_wp2_with (refine at_store 188 _ _ rfl ?_)
   refine Stop.to ?_
   refine wpList_store_gen rfl 188 _ _ rfl Y #[.int .u64 (n : Int), .int .i64 i, .string ⟨x.toArray⟩, .int .i64 0, .int .i64 0] rfl rfl 188 _ rY (by kernel_rfl) rfl (by simp [Value.oneCell']) ?_
   intro w6 rY o6
   replace rR := rR.only o6 (by omega)
   replace bb := below_only bb o6 (by omega)
   have rX := rX4.only o6 (by omega)
   clear rX4 o6
   have cX2 := rX.cellv (i := 2) (v := .int .i64 er2) rfl
   go_wp2_with (first | (refine wpList_load_row rfl 131 _ rfl X rfl 131 #[.string ⟨s.toArray⟩, .int .i64 (q : Int), .int .i64 er2] (0, 0) _ rX Tryz.underlying131 rfl (by kernel_rfl) ?_) | (refine at_store 131 _ _ rfl ?_))
   refine Stop.to ?_
   refine wpList_store_gen rfl 131 _ _ rfl R #[.string ⟨s.toArray⟩, .int .i64 (q : Int), .int .i64 er2] rfl rfl 131 _ rR (by kernel_rfl) rfl (by simp [Value.oneCell']) ?_
   intro w7 rR7 o7
   replace bb := below_only bb o7 (by omega)
   go_wp2_with fail
   refine bodyPost_ret (results_cell_tmp Tryz.results98 _ _ R 131 _ (0, 0) _ rfl rR7 Tryz.underlying131 rfl (by kernel_rfl)) rfl ?_
   exact ⟨rfl, bb⟩
theorem ite_le {p : Prop} [Decidable p] {a z : Int} (ha : a ≤ 255) (hz : z ≤ 255) : (if p then a else z) ≤ 255 := by split <;> assumption
theorem byte_le {z : Int} {s : List UInt8} {r : Rs} (hz : z ≤ 255) : (rByteZ z s r).1 ≤ 255 := by
 unfold rByteZ
 rw [step_fst]
 refine ite_le ?_ hz
 dsimp only
 cases s[r.pl]? with
 | none => decide
 | some b => have := b.toNat_lt; simp only; omega
theorem ask0_any (s : List UInt8) (r : Rs) (hp : r.pl ≤ s.length) (hs : s.length ≤ 1000000) (w : World) :
 Calls Tryz.prog 98 #[.agg (rrC s r), .int .i64 0] w fun e w' => e = .returned (.tuple #[.agg (rrC s (rByteZ (-1) s r).2), .int .i64 (rByteZ (-1) s r).1]) ∧ Below w.heap.size w w' := by
 by_cases hr : r.er = 0
 · refine ask_gen 0 s r _ (rByteZ 0 s r).1.toNat 0 _ (fun w => do0_any s r 1000000 hr hp hs w) (by have := byte_le (z := 0) (s := s) (r := r) (by decide); omega) ?_ ?_ ?_ w
   · intro h
     have h2 : ¬ (r.move (r.pl + 1) (if s.length ≤ r.pl then 2 else 0)).er = 0 := h
     unfold rByteZ; rw [step_fst]; exact if_neg h2
   · intro _ h; exact absurd h (by decide)
   · intro h _
     have h2 : (r.move (r.pl + 1) (if s.length ≤ r.pl then 2 else 0)).er = 0 := h
     unfold rByteZ; rw [step_fst, step_fst]; dsimp only; rw [if_pos h2, if_pos h2]
     split
     · rw [Int.toNat_natCast]
     · rfl
 · have e : rByteZ (-1) s r = (-1, r) := step_no hr _ _
   rw [e]
   exact ask_gen 0 s r r 0 0 (-1) (fun w => doNo_any s r 0 1000000 hr w) (by decide) (fun _ => rfl) (fun h => absurd h hr) (fun h => absurd h hr) w
theorem ask2_any (s : List UInt8) (r : Rs) (hp : r.pl ≤ s.length) (hs : s.length ≤ 1000000) (w : World) :
 Calls Tryz.prog 98 #[.agg (rrC s r), .int .i64 2] w fun e w' => e = .returned (.tuple #[.agg (rrC s (rCountZ (-1) s r 1000000).2), .int .i64 (rCountZ (-1) s r 1000000).1]) ∧ Below w.heap.size w w' := by
 by_cases hr : r.er = 0
 · refine ask_gen 2 s r _ (rCountZ 0 s r 1000000).1.toNat 0 _ (fun w => do2_any s r 1000000 (by decide) (by decide) hr hp hs w) (by have := rCountZ_in (s := s) (r := r) (most := 1000000) (by decide); omega) ?_ ?_ ?_ w
   · intro h
     have h2 : ¬ (r.move (countP s r.pl 1000000).2.1 (countP s r.pl 1000000).1).er = 0 := h
     unfold rCountZ; rw [step_fst]; exact if_neg h2
   · intro _ h; exact absurd h (by decide)
   · intro h _
     have h2 : (r.move (countP s r.pl 1000000).2.1 (countP s r.pl 1000000).1).er = 0 := h
     unfold rCountZ; rw [step_fst, step_fst]; dsimp only; rw [if_pos h2, if_pos h2, Int.toNat_natCast]
 · have e : rCountZ (-1) s r 1000000 = (-1, r) := step_no hr _ _
   rw [e]
   exact ask_gen 2 s r r 0 0 (-1) (fun w => doNo_any s r 2 1000000 hr w) (by decide) (fun _ => rfl) (fun h => absurd h hr) (fun h => absurd h hr) w
theorem ask3_any (s : List UInt8) (r : Rs) (hp : r.pl ≤ s.length) (hs : s.length ≤ 1000000) (w : World) :
 Calls Tryz.prog 98 #[.agg (rrC s r), .int .i64 3] w fun e w' => e = .returned (.tuple #[.agg (rrC s (rIntZ (-1) s r).2), .int .i64 (rIntZ (-1) s r).1]) ∧ Below w.heap.size w w' := by
 by_cases hr : r.er = 0
 · refine ask_gen 3 s r _ 0 (rIntZ 0 s r).1 _ (fun w => do3_any s r 1000000 hr hp hs w) (by decide) ?_ ?_ ?_ w
   · intro h
     have h2 : ¬ (r.move (r.pl + (getL (s.drop r.pl)).2.2) (getL (s.drop r.pl)).1).er = 0 := h
     unfold rIntZ; rw [step_fst]; exact if_neg h2
   · intro h _
     have h2 : (r.move (r.pl + (getL (s.drop r.pl)).2.2) (getL (s.drop r.pl)).1).er = 0 := h
     unfold rIntZ; rw [step_fst, step_fst]; dsimp only; rw [if_pos h2, if_pos h2]
   · intro _ h; exact absurd rfl h
 · have e : rIntZ (-1) s r = (-1, r) := step_no hr _ _
   rw [e]
   exact ask_gen 3 s r r 0 0 (-1) (fun w => doNo_any s r 3 1000000 hr w) (by decide) (fun _ => rfl) (fun h => absurd h hr) (fun h => absurd h hr) w
end Go.Proofs.YtcgglolckkeeiaaGreat
