/- Lemmas for DirectUnusedP. -/
import Derived.Test.YtlglilmgklipdaaU8
import Derived.Test.YtlglilmgklipdaaU13
import Derived.Test.YtlglilmgklipdaaU7
import Derived.Test.YtlglilmgklipdaaU3
import Derived.Test.YtlglilmgklipdaaU4
import Derived.Test.YtlglilmgklipdaaU1
import Derived.Maps.AppendAt
import Derived.Deep.Cut
namespace Go.Proofs.Ytlglilmgklipdaa
set_option linter.unusedVariables false
open Go.RowKit Go.Deep
set_option maxRecDepth 100000 in
set_option maxHeartbeats 16000000 in
theorem works17_any (w : World) : Calls Try.prog 21 #[] w fun e w' => e = .returned (.bool true) ∧ Below w.heap.size w w' := by
 go_enter Try.func21, Try.ntmps21
 obtain ⟨S0, hSd⟩ : ∃ S : World → Prop, S = (fun W => Below w.heap.size w W) := ⟨_, rfl⟩
 have st0 : St S0 := by rw [hSd]; infer_instance
 have F_low : Hid (∀ W, S0 W → Below w.heap.size w W) := by show ∀ W, _; rw [hSd]; exact fun W h => h
 have HS0 : Hid (S0 w) := by show S0 w; rw [hSd]; exact Below.refl _ _
 clear hSd
 go_wp2_with (refine at_slice _ _ _ rfl ?_)
 refine Stop.to ?_
 refine wpList_slice_gen rfl 22 1 _ rfl 3 (ints [0]).toArray (bs_run Try.underlying22 info_i (by decide) (by decide) (by kernel_rfl)) ?_
 intro G_1 w_2 hG rG bG
 have hprev := st0.go HS0.out (bG.mono hG)
 obtain ⟨S1, hSd⟩ : ∃ S : World → Prop, S = (fun W => S0 W ∧ Row W G_1 3 (ints [0]).toArray) := ⟨_, rfl⟩
 have st1 : St S1 := by rw [hSd]; infer_instance
 have D1 : Hid (∀ W, S1 W → S0 W) := by show ∀ W, _; rw [hSd]; exact fun W h => h.1
 have F_v1 : Hid (∀ W, S1 W → Row W G_1 3 (ints [0]).toArray) := by show ∀ W, _; rw [hSd]; exact fun W h => h.2
 have HS1 : Hid (S1 w_2) := by show S1 w_2; rw [hSd]; exact ⟨hprev, rG⟩
 clear hSd
 clear hprev HS0 hG rG bG
 go_wp2_with (refine at_slice _ _ _ rfl ?_)
 refine Stop.to ?_
 refine wpList_slice_gen rfl 23 5 _ rfl 44 (bodyW.flatMap Nd.cells).toArray (bs_run Try.underlying23 info_n (by decide) (by decide) (by kernel_rfl)) ?_
 intro G_3 w_4 hG rG bG
 have hprev := st1.go HS1.out (bG.mono hG)
 obtain ⟨S2, hSd⟩ : ∃ S : World → Prop, S = (fun W => S1 W ∧ Row W G_3 44 (bodyW.flatMap Nd.cells).toArray) := ⟨_, rfl⟩
 have st2 : St S2 := by rw [hSd]; infer_instance
 have D2 : Hid (∀ W, S2 W → S1 W) := by show ∀ W, _; rw [hSd]; exact fun W h => h.1
 have F_n1 : Hid (∀ W, S2 W → Row W G_3 44 (bodyW.flatMap Nd.cells).toArray) := by show ∀ W, _; rw [hSd]; exact fun W h => h.2
 have HS2 : Hid (S2 w_4) := by show S2 w_4; rw [hSd]; exact ⟨hprev, rG⟩
 clear hSd
 clear hprev HS1 hG rG bG
 have hok := pW_ok (F_v1.out _ (D2.out _ HS2.out)) (F_n1.out _ HS2.out)
 go_wp2_with (refine at_alloc _ rfl ?_)
 refine Stop.to ?_
 refine wpList_alloc_gen rfl 25 rfl _ _ zero_prog rfl ?_
 intro G_6 w_7 hG rG bG
 go_wp2_with (refine at_store _ _ _ rfl ?_)
 refine Stop.to ?_
 refine wpList_store_gen rfl 25 _ _ rfl G_6 (pW G_1 G_3).cells rfl rfl 25 _ rG (by kernel_rfl) rfl (prog_one _) ?_
 intro w_8 rH oH
 have bH : Below (w_4).heap.size w_4 w_8 := (bG.mono hG).trans (oH.below hG)
 have hprev := st2.go HS2.out (bH)
 obtain ⟨S3, hSd⟩ : ∃ S : World → Prop, S = (fun W => S2 W ∧ Row W G_6 25 (pW G_1 G_3).cells) := ⟨_, rfl⟩
 have st3 : St S3 := by rw [hSd]; infer_instance
 have D3 : Hid (∀ W, S3 W → S2 W) := by show ∀ W, _; rw [hSd]; exact fun W h => h.1
 have F_P1 : Hid (∀ W, S3 W → Row W G_6 25 (pW G_1 G_3).cells) := by show ∀ W, _; rw [hSd]; exact fun W h => h.2
 have HS3 : Hid (S3 w_8) := by show S3 w_8; rw [hSd]; exact ⟨hprev, rH⟩
 clear hSd
 clear hprev HS2 hG rG bG rH oH bH
 clear hok
 have hokAll : Hid (∀ W, S3 W → (pW G_1 G_3).ok W) := by show ∀ W, _; exact fun W hW => pW_ok (F_v1.out _ (D2.out _ (D3.out _ hW))) (F_n1.out _ (D3.out _ hW))
 have F_ok1 := hokAll
 clear hokAll
 go_wp2_with (first | (refine wpList_load_row rfl 25 _ rfl G_6 rfl 25 (pW G_1 G_3).cells (0, 0) _ (F_P1.out _ HS3.out) Try.underlying25 rfl (by kernel_rfl) ?_) | (refine at_slice _ _ _ rfl ?_))
 refine Stop.to ?_
 refine wpList_slice_gen rfl 22 1 _ rfl 3 (ints [4]).toArray (bs_run Try.underlying22 info_i (by decide) (by decide) (by kernel_rfl)) ?_
 intro G_9 w_10 hG rG bG
 have hprev := st3.go HS3.out (bG.mono hG)
 obtain ⟨S4, hSd⟩ : ∃ S : World → Prop, S = (fun W => S3 W ∧ Row W G_9 3 (ints [4]).toArray) := ⟨_, rfl⟩
 have st4 : St S4 := by rw [hSd]; infer_instance
 have D4 : Hid (∀ W, S4 W → S3 W) := by show ∀ W, _; rw [hSd]; exact fun W h => h.1
 have F_a_r : Hid (∀ W, S4 W → Row W G_9 3 (ints [4]).toArray) := by show ∀ W, _; rw [hSd]; exact fun W h => h.2
 have HS4 : Hid (S4 w_10) := by show S4 w_10; rw [hSd]; exact ⟨hprev, rG⟩
 clear hSd
 clear hprev HS3 hG rG bG
 go_wp2_with fail
 refine (dRunA (pW G_1 G_3) (some ⟨G_9, 0, none⟩) 1 [4] 5 w_10 (by show 5 ≤ 1000; omega) (by decide) (F_ok1.out _ (D4.out _ HS4.out)) (rd_row (F_a_r.out _ HS4.out)) (by simp [InI])).mono ?_
 rintro e w_11 ⟨A_r, cap_r, rfl, hrd, _, _, _, bb⟩
 rw [runW5 (F_ok1.out _ (D4.out _ HS4.out))] at hrd ⊢
 rw [show checkZ (pW G_1 G_3) (List.length ([4] : List Int)) 5 = 0 from by first | (rw [checkW]; done) | (rw [checkW]; rfl)]
 have hprev := st4.go HS4.out (bb)
 replace HS4 := Lib.hid hprev
 clear hprev bb hrd
 go_wp2_with (refine at_alloc _ rfl ?_)
 refine Stop.to ?_
 refine wpList_alloc_gen rfl 32 rfl _ _ zero_run2 rfl ?_
 intro G_12 w_13 hG rG bG
 go_wp2_with (refine at_store _ _ _ rfl ?_)
 refine Stop.to ?_
 refine wpList_store_gen rfl 32 _ _ rfl G_12 #[.int .i64 0, .int .i64 5, .int .i64 5, .slice A_r 0 cap_r] rfl rfl 32 _ rG (by kernel_rfl) rfl (run_one _ _ _ rfl) ?_
 intro w_14 rH oH
 have bH : Below (w_11).heap.size w_11 w_14 := (bG.mono hG).trans (oH.below hG)
 have hprev := st4.go HS4.out (bH)
 obtain ⟨S5, hSd⟩ : ∃ S : World → Prop, S = (fun W => S4 W ∧ Row W G_12 32 #[.int .i64 0, .int .i64 5, .int .i64 5, .slice A_r 0 cap_r]) := ⟨_, rfl⟩
 have st5 : St S5 := by rw [hSd]; infer_instance
 have D5 : Hid (∀ W, S5 W → S4 W) := by show ∀ W, _; rw [hSd]; exact fun W h => h.1
 have F_r : Hid (∀ W, S5 W → Row W G_12 32 #[.int .i64 0, .int .i64 5, .int .i64 5, .slice A_r 0 cap_r]) := by show ∀ W, _; rw [hSd]; exact fun W h => h.2
 have HS5 : Hid (S5 w_14) := by show S5 w_14; rw [hSd]; exact ⟨hprev, rH⟩
 clear hSd
 clear hprev HS4 hG rG bG rH oH bH
 go_wp2_with (refine wpList_load_row rfl 25 _ rfl G_6 rfl 25 (pW G_1 G_3).cells (0, 0) _ (F_P1.out _ (D4.out _ (D5.out _ HS5.out))) Try.underlying25 rfl (by kernel_rfl) ?_)
 refine (dRunA (pW G_1 G_3) none 0 [] 4 w_14 (by show 5 ≤ 1000; omega) (by decide) (F_ok1.out _ (D4.out _ (D5.out _ HS5.out))) (Rd.nil _ _) (by simp)).mono ?_
 rintro e w_15 ⟨A_g, cap_g, rfl, hrd, _, _, _, bb⟩
 rw [runWn] at hrd ⊢
 rw [show checkZ (pW G_1 G_3) (List.length ([] : List Int)) 4 = 18 from by first | (rw [checkW]; done) | (rw [checkW]; rfl)]
 have hprev := st5.go HS5.out (bb)
 replace HS5 := Lib.hid hprev
 clear hprev bb hrd
 go_wp2_with (refine at_alloc _ rfl ?_)
 refine Stop.to ?_
 refine wpList_alloc_gen rfl 32 rfl _ _ zero_run2 rfl ?_
 intro G_16 w_17 hG rG bG
 go_wp2_with (refine at_store _ _ _ rfl ?_)
 refine Stop.to ?_
 refine wpList_store_gen rfl 32 _ _ rfl G_16 #[.int .i64 0, .int .i64 0, .int .i64 0, .slice A_g 0 cap_g] rfl rfl 32 _ rG (by kernel_rfl) rfl (run_one _ _ _ rfl) ?_
 intro w_18 rH oH
 have bH : Below (w_15).heap.size w_15 w_18 := (bG.mono hG).trans (oH.below hG)
 have hprev := st5.go HS5.out (bH)
 obtain ⟨S6, hSd⟩ : ∃ S : World → Prop, S = (fun W => S5 W ∧ Row W G_16 32 #[.int .i64 0, .int .i64 0, .int .i64 0, .slice A_g 0 cap_g]) := ⟨_, rfl⟩
 have st6 : St S6 := by rw [hSd]; infer_instance
 have D6 : Hid (∀ W, S6 W → S5 W) := by show ∀ W, _; rw [hSd]; exact fun W h => h.1
 have F_g : Hid (∀ W, S6 W → Row W G_16 32 #[.int .i64 0, .int .i64 0, .int .i64 0, .slice A_g 0 cap_g]) := by show ∀ W, _; rw [hSd]; exact fun W h => h.2
 have HS6 : Hid (S6 w_18) := by show S6 w_18; rw [hSd]; exact ⟨hprev, rH⟩
 clear hSd
 clear hprev HS5 hG rG bG rH oH bH
 go_wp2_with (refine at_load 29 _ rfl ?_)
 refine Stop.to ?_
 refine wpList_holdN S6 3 HS6.out ?_
 simp only [List.take_succ_cons, List.take_zero, List.drop_succ_cons, List.drop_zero]
 (refine hold_load_at rfl 29 _ rfl (⟨G_12, 0, none⟩) rfl (outC 0 5) _ (fun W hW => out_cells (r := ⟨0, 5, 5, A_r, cap_r, []⟩) (F_r.out _ (D6.out _ hW))) Try.underlying29 rfl (by kernel_rfl) ?_; simp only [Act.put, List.setIfInBounds_toArray, List.set_cons_zero, List.set_cons_succ])
 (refine hold_value rfl ?_ (fun W hW => ?_) ?_; rotate_left; (focus (go_simp; exact rfl)); simp only [Act.put, List.setIfInBounds_toArray, List.set_cons_zero, List.set_cons_succ])
 refine hold_value rfl (.bool true) (fun W _ => run_exec_binop rfl _ (run_eqGuard_agg _ _ _ _ _ _ _ (by kernel_rfl)) (by exact (eql_outcome 0 5 0 5) W)) ?_
 simp only [Act.put, List.setIfInBounds_toArray, List.set_cons_zero, List.set_cons_succ]
 refine wpHold_nil fun W9 hW9 => ?_
 have HT6 := Lib.hid hW9
 clear HS6 hW9
 have HS6 := HT6
 clear HT6
 have r2 := (F_r.out _ (D6.out _ HS6.out)).cellv (i := 2) (v := .int .i64 5) rfl
 go_wp2_with (first | (refine wpList_load_rowG rfl 25 _ rfl G_6 rfl 25 (pW G_1 G_3).cells (0, 0) _ (F_P1.out _ (D4.out _ (D5.out _ (D6.out _ HS6.out)))) Try.underlying25 rfl (by kernel_rfl) ?_) | (refine at_slice _ _ _ rfl ?_))
 refine Stop.to ?_
 refine wpList_slice_gen rfl 22 1 _ rfl 3 (ints [4]).toArray (bs_run Try.underlying22 info_i (by decide) (by decide) (by kernel_rfl)) ?_
 intro G_19 w_20 hG rG bG
 have hprev := st6.go HS6.out (bG.mono hG)
 obtain ⟨S7, hSd⟩ : ∃ S : World → Prop, S = (fun W => S6 W ∧ Row W G_19 3 (ints [4]).toArray) := ⟨_, rfl⟩
 have st7 : St S7 := by rw [hSd]; infer_instance
 have D7 : Hid (∀ W, S7 W → S6 W) := by show ∀ W, _; rw [hSd]; exact fun W h => h.1
 have F_b0 : Hid (∀ W, S7 W → Row W G_19 3 (ints [4]).toArray) := by show ∀ W, _; rw [hSd]; exact fun W h => h.2
 have HS7 : Hid (S7 w_20) := by show S7 w_20; rw [hSd]; exact ⟨hprev, rG⟩
 clear hSd
 clear hprev HS6 hG rG bG
 clear r2
 go_wp2_with fail
 refine (dOut_any (pW G_1 G_3) (some ⟨G_19, 0, none⟩) 1 [4] 4 w_20 (by show 5 ≤ 1000; omega) (by decide) (F_ok1.out _ (D4.out _ (D5.out _ (D6.out _ (D7.out _ HS7.out))))) (rd_row (F_b0.out _ HS7.out)) (by simp [InI])).mono ?_
 rintro e w_21 ⟨rfl, bb⟩
 rw [runW4 (F_ok1.out _ (D4.out _ (D5.out _ (D6.out _ (D7.out _ HS7.out))))), show outV ⟨[4], [[]], 0, 4, [], some (4, 0)⟩ = .agg (outC 4 0).toArray from rfl]
 have hprev := st7.go HS7.out (bb)
 replace HS7 := Lib.hid hprev
 clear hprev bb
 go_wp2_with (refine at_build 29 _ rfl ?_)
 refine Stop.to ?_
 refine wpList_holdN S7 2 HS7.out ?_
 simp only [List.take_succ_cons, List.take_zero, List.drop_succ_cons, List.drop_zero]
 (refine hold_value rfl ?_ (fun W hW => ?_) ?_; rotate_left; (focus (go_simp; exact rfl)); simp only [Act.put, List.setIfInBounds_toArray, List.set_cons_zero, List.set_cons_succ])
 refine hold_value rfl (.bool true) (fun W _ => run_exec_binop rfl _ (run_eqGuard_agg _ _ _ _ _ _ _ (by kernel_rfl)) (by exact (eql_outcome 4 0 4 0) W)) ?_
 simp only [Act.put, List.setIfInBounds_toArray, List.set_cons_zero, List.set_cons_succ]
 refine wpHold_nil fun W9 hW9 => ?_
 have HT7 := Lib.hid hW9
 clear HS7 hW9
 have HS7 := HT7
 clear HT7
 go_wp2_with (refine wpList_load_rowG rfl 25 _ rfl G_6 rfl 25 (pW G_1 G_3).cells (0, 0) _ (F_P1.out _ (D4.out _ (D5.out _ (D6.out _ (D7.out _ HS7.out))))) Try.underlying25 rfl (by kernel_rfl) ?_)
 refine (dOut_any (pW G_1 G_3) none 0 [] 4 W9 (by show 5 ≤ 1000; omega) (by decide) (F_ok1.out _ (D4.out _ (D5.out _ (D6.out _ (D7.out _ HS7.out))))) (Rd.nil _ _) (by simp)).mono ?_
 rintro e w_22 ⟨rfl, bb⟩
 rw [runWn, show outV zeroS = .agg (outC 0 0).toArray from rfl]
 have hprev := st7.go HS7.out (bb)
 replace HS7 := Lib.hid hprev
 clear hprev bb
 go_wp2_with (refine at_build 29 _ rfl ?_)
 refine Stop.to ?_
 refine wpList_holdN S7 2 HS7.out ?_
 simp only [List.take_succ_cons, List.take_zero, List.drop_succ_cons, List.drop_zero]
 (refine hold_value rfl ?_ (fun W hW => ?_) ?_; rotate_left; (focus (go_simp; exact rfl)); simp only [Act.put, List.setIfInBounds_toArray, List.set_cons_zero, List.set_cons_succ])
 refine hold_value rfl (.bool true) (fun W _ => run_exec_binop rfl _ (run_eqGuard_agg _ _ _ _ _ _ _ (by kernel_rfl)) (by exact (eql_outcome 0 0 0 0) W)) ?_
 simp only [Act.put, List.setIfInBounds_toArray, List.set_cons_zero, List.set_cons_succ]
 refine wpHold_nil fun W9 hW9 => ?_
 have HT7 := Lib.hid hW9
 clear HS7 hW9
 have HS7 := HT7
 clear HT7
 go_wp2_with fail
 go_ret
 exact ⟨rfl, (F_low.out _ (D1.out _ (D2.out _ (D3.out _ (D4.out _ (D5.out _ (D6.out _ (D7.out _ HS7.out))))))))⟩
end Go.Proofs.Ytlglilmgklipdaa
namespace Go.Proofs.Ytlglilmgklipdaa
set_option linter.unusedVariables false
open Go.RowKit Go.Deep
set_option maxRecDepth 100000 in
set_option maxHeartbeats 4000000 in
theorem few17_any (p : PgV) (aa : Option Addr) (acap n : Nat) (fuel : Int) (w : World) : Calls Try.prog 22 #[.agg p.cells, .slice aa n acap, .int .i64 fuel] w fun e w' => e = .returned (.bool (fewZ p n fuel)) ∧ Below w.heap.size w w' := by
 go_enter Try.func22, Try.ntmps22
 go_wp2_with (refine at_box _ _ rfl ?_)
 refine Stop.to ?_
 refine wpList_box_gen rfl 25 _ rfl p.cells rfl ?_
 intro G w1 hG r1 b1
 have b1 := (Below.refl w.heap.size w).trans (b1.mono hG)
 clear hG
 have Hr1 := Lib.hid r1
 clear r1
 go_wp2_with (refine wpList_load_row rfl 25 _ rfl G rfl 25 p.cells (0, 0) _ Hr1.out Try.underlying25 rfl (by kernel_rfl) ?_)
 refine (few_any p w1).mono ?_
 rintro e w2 ⟨rfl, b2⟩
 have Hb2 := Lib.hid (b1.trans (b2.mono b1.size))
 generalize hq : fewP p = q
 have Hq := Lib.hid hq
 clear hq b1 b2 Hr1
 cases q
 · go_wp2_with fail
   go_ret
   exact ⟨ret_b (by unfold fewZ; rw [Hq.out]; simp; try omega), Hb2.out⟩
 by_cases h1 : n ≤ 40
 rotate_left
 · have h1' : ¬ (n : Int) ≤ 40 := by omega
   have h1'' : 40 < (n : Int) := by omega
   have H1 := Lib.hid h1
   clear h1
   go_wp2_with fail
   go_ret
   exact ⟨ret_b (by have h1 := H1.out; unfold fewZ; rw [Hq.out]; simp; intro; omega), Hb2.out⟩
 have h1' : (n : Int) ≤ 40 := by omega
 have H1 := Lib.hid h1
 clear h1
 by_cases h2 : fuel ≤ 400
 · go_wp2_with fail
   go_ret
   exact ⟨ret_b (by have h1 := H1.out; unfold fewZ; rw [Hq.out]; simp; omega), Hb2.out⟩
 have h2' : 400 < fuel := by omega
 by_cases h3 : 10000 < fuel
 · clear h2
   go_wp2_with fail
   go_ret
   exact ⟨ret_b (by have h1 := H1.out; unfold fewZ; rw [Hq.out]; simp; omega), Hb2.out⟩
 · have h3' : fuel ≤ 10000 := by omega
   have H2 := Lib.hid h2
   have H3 := Lib.hid h3
   clear h2 h3
   go_wp2_with fail
   go_ret
   exact ⟨ret_b (by have h1 := H1.out; have h2 := H2.out; have h3 := H3.out; unfold fewZ; rw [Hq.out]; simp; omega), Hb2.out⟩
end Go.Proofs.Ytlglilmgklipdaa
namespace Go.Proofs.Ytlglilmgklipdaa
set_option linter.unusedVariables false
open Go.ChangeShapes Go.WideShapes Go.RowKit Go.Deep
theorem cells_node : Try.prog.cellsOf 44 = 2 := by kernel_rfl
theorem cells_prog : Try.prog.cellsOf 25 = 3 := by kernel_rfl
theorem cells_ints : Try.prog.cellsOf 22 = 1 := by kernel_rfl
theorem cells_nodes : Try.prog.cellsOf 23 = 1 := by kernel_rfl
structure IntsV where
 addr : Option Addr
 cap : Nat
 l : List Int
def IntsV.val (r : IntsV) : Value := .slice r.addr r.l.length r.cap
structure IntsV.ok (r : IntsV) (w : World) : Prop where
 len : r.l.length ≤ r.cap
 cap : r.cap ≤ maxLen
 nil : r.addr = none → r.cap = 0
 reads : Rd w r.addr (ints r.l)
 all : ∀ x ∈ r.l, InI x
theorem IntsV.ok.go {r : IntsV} {w w' : World} (h : r.ok w) (b : Below w.heap.size w w') : r.ok w' := ⟨h.len, h.cap, h.nil, h.reads.go b, h.all⟩
instance St.intsok {r : IntsV} : St (fun W => r.ok W) := ⟨fun h b => h.go b⟩
def PgV.val (p : PgV) : Value := .agg p.cells
section
variable {H : Type} {enc : TypeId × Value → H} {w : World} {base : Nat} {spare : Nat → Bool} {held : Bool}
theorem open_int1 {fuel : Nat} {cs : List Value} {x : DataW H × List MemPlace} (h : DataW.trod enc Try.prog w base spare held fuel 3 cs = some x) : ∃ n : Int, cs = [.int .i64 n] ∧ InI n := by
 obtain ⟨n, e, h⟩ := trod_i64 Try.underlying3 h
 exact ⟨n, e, h⟩
set_option maxRecDepth 100000 in
theorem open_node {fuel : Nat} {cs : List Value} {x : DataW H × List MemPlace} (h : DataW.trod enc Try.prog w base spare held fuel 44 cs = some x) : ∃ e : Nd, cs = e.cells ∧ InI e.tag ∧ InI e.n := by
 obtain ⟨hl, n, hf⟩ := trod_field Try.underlying44 h
 have hl2 : cs.length = 2 := hl.trans cells_node
 match cs, hl2 with
 | [a, b], _ =>
  obtain ⟨_, h0⟩ := hf 0 _ rfl
  obtain ⟨_, h1⟩ := hf 1 _ rfl
  obtain ⟨n0, e0, w0⟩ := trod_i64 Try.underlying3 h0
  obtain ⟨n1, e1, w1⟩ := trod_i64 Try.underlying3 h1
  simp [cells_int] at e0 e1
  exact ⟨⟨n0, n1⟩, by rw [e0, e1]; rfl, w0, w1⟩
theorem ints_flat (l : List Int) : l.flatMap (fun n => [Value.int .i64 n]) = ints l := by
 induction l with
 | nil => rfl
 | cons a l ih => rw [List.flatMap_cons, ih]; rfl
set_option maxRecDepth 100000 in
theorem open_intsC {fuel : Nat} {cs : List Value} {x : DataW H × List MemPlace} (h : DataW.trod enc Try.prog w base spare held fuel 22 cs = some x) : ∃ r : IntsV, r.ok w ∧ cs = [r.val] := by
 obtain ⟨A, cap, xss, rfl, h1, h2, hA, h3, h4, h5⟩ := open_rows Try.underlying22 h
 obtain ⟨l, rfl, hok⟩ := rows_map (fun n : Int => [Value.int .i64 n]) InI xss (fun xs hxs => by obtain ⟨n, y, hy⟩ := h5 xs hxs; exact open_int1 hy)
 rw [List.length_map] at h1
 refine ⟨⟨A, cap, l⟩, ⟨h1, h2, hA, ?_, hok⟩, by rw [List.length_map]; rfl⟩
 rw [← List.flatMap_def, ints_flat] at h4
 exact h4
set_option maxRecDepth 100000 in
theorem open_nodesC {fuel : Nat} {cs : List Value} {x : DataW H × List MemPlace} (h : DataW.trod enc Try.prog w base spare held fuel 23 cs = some x) :
 ∃ (A : Option Addr) (cap : Nat) (l : List Nd), cs = [.slice A l.length cap] ∧ l.length ≤ cap ∧ cap ≤ maxLen ∧ (A = none → cap = 0) ∧ Rd w A (l.flatMap Nd.cells) ∧ ∀ e ∈ l, InI e.tag ∧ InI e.n := by
 obtain ⟨A, cap, xss, rfl, h1, h2, hA, h3, h4, h5⟩ := open_rows Try.underlying23 h
 obtain ⟨l, rfl, hok⟩ := rows_map Nd.cells (fun e => InI e.tag ∧ InI e.n) xss (fun xs hxs => by obtain ⟨n, y, hy⟩ := h5 xs hxs; exact open_node hy)
 rw [List.length_map] at h1
 exact ⟨A, cap, l, by rw [List.length_map], h1, h2, hA, by rw [List.flatMap_def]; exact h4, hok⟩
set_option maxRecDepth 100000 in
theorem open_progC {fuel : Nat} {cs : List Value} {x : DataW H × List MemPlace} (h : DataW.trod enc Try.prog w base spare held fuel 25 cs = some x) : ∃ p : PgV, p.ok w ∧ cs = p.cells.toList := by
 obtain ⟨hl, n, hf⟩ := trod_field Try.underlying25 h
 have hl3 : cs.length = 3 := hl.trans cells_prog
 match cs, hl3 with
 | [a, b, c], _ =>
  obtain ⟨_, h0⟩ := hf 0 _ rfl
  obtain ⟨_, h1⟩ := hf 1 _ rfl
  obtain ⟨_, h2⟩ := hf 2 _ rfl
  obtain ⟨n0, e0, w0⟩ := trod_i64 Try.underlying3 h0
  obtain ⟨r, hr, e1⟩ := open_intsC h1
  obtain ⟨A, cap, l, e2, g1, g2, g3, g4, g5⟩ := open_nodesC h2
  simp [cells_int, cells_ints, cells_nodes] at e0 e1 e2
  exact ⟨⟨n0, r.addr, r.cap, r.l, A, cap, l⟩, ⟨w0, hr.len, hr.cap, hr.nil, hr.reads, hr.all, g1, g2, g3, g4, g5⟩, by rw [e0, e1, e2]; rfl⟩
set_option maxRecDepth 100000 in
theorem open_ints {r : Go.Reach} {b0 : Nat} {v : Value} {d : DataW H} {p : List MemPlace} (hv : Value.okWide Try.prog w r b0 22 v) (h : DataW.Trod enc Try.prog w base spare held 22 v d p) : ∃ r : IntsV, r.ok w ∧ v = r.val := by
 obtain ⟨a, len, cap, rfl⟩ := okWide_slice Try.underlying22 hv
 obtain ⟨fuel, hx⟩ := h
 obtain ⟨r, hr, e⟩ := open_intsC hx
 have e2 : [Value.slice a len cap] = [r.val] := e
 injection e2 with e2
 exact ⟨r, hr, e2⟩
set_option maxRecDepth 100000 in
theorem open_prog {r : Go.Reach} {b0 : Nat} {v : Value} {d : DataW H} {p : List MemPlace} (hv : Value.okWide Try.prog w r b0 25 v) (h : DataW.Trod enc Try.prog w base spare held 25 v d p) : ∃ p : PgV, p.ok w ∧ v = p.val := by
 obtain ⟨cs, rfl, fuel, x, hx⟩ := trod_val Try.underlying25 hv h
 obtain ⟨p, hp, rfl⟩ := open_progC hx
 exact ⟨p, hp, rfl⟩
end
end Go.Proofs.Ytlglilmgklipdaa
namespace Go.Proofs.Ytlglilmgklipdaa
set_option linter.unusedVariables false
open Go.RowKit Go.Deep
def Ms.kind (s : Ms) : Int := (s.out.getD (0, 0)).1
end Go.Proofs.Ytlglilmgklipdaa
namespace Go.Proofs.Ytlglilmgklipdaa
set_option linter.unusedVariables false
open Go.RowKit
section
variable {V : List Int} (l : List Int)
theorem get_app {n : Nat} {t : Int} (h : V[n]? = some t) : (V ++ l)[n]? = some t := by rw [List.getElem?_append_left (List.getElem?_eq_some_iff.1 h).1]; exact h
theorem plainV_app {n : Int} (h : plainV V n = true) : plainV (V ++ l) n = true ∧ ((V ++ l)[n.toNat]?).getD 0 = (V[n.toNat]?).getD 0 := by
 obtain ⟨t, ht, h01⟩ := plainV_get h
 rw [get_app l ht, ht]
 refine ⟨?_, rfl⟩
 unfold plainV
 rw [get_app l ht]
 simpa using h01
theorem arrayV_app {n : Int} (h : arrayV V n = true) : arrayV (V ++ l) n = true := by
 obtain ⟨t, ht, h0⟩ := arrayV_get h
 unfold arrayV
 rw [get_app l ht]
 simpa using h0
theorem isZ_app {x : Nd} (h : isZ V x ≠ -1) : isZ (V ++ l) x = isZ V x := by
 have hp : x.tag = 3 ∨ x.tag = 21 → plainV V x.n = true := fun ht => by
  rcases ht with ht | ht
  · cases hh : plainV V x.n with
    | true => rfl
    | false => exact absurd (by unfold isZ; rw [ht, hh]; rfl) h
  · cases hh : plainV V x.n with
    | true => rfl
    | false => exact absurd (by unfold isZ; rw [ht, hh]; rfl) h
 have ha : x.tag = 4 ∨ x.tag = 22 → arrayV V x.n = true := fun ht => by
  rcases ht with ht | ht
  · cases hh : arrayV V x.n with
    | true => rfl
    | false => exact absurd (by unfold isZ; rw [ht, hh]; rfl) h
  · cases hh : arrayV V x.n with
    | true => rfl
    | false => exact absurd (by unfold isZ; rw [ht, hh]; rfl) h
 unfold isZ
 by_cases h3 : x.tag = 3
 · have := plainV_app l (hp (.inl h3)); simp only [h3, this.1, hp (.inl h3), this.2]; rfl
 by_cases h21 : x.tag = 21
 · have := plainV_app l (hp (.inr h21)); simp only [h21, this.1, hp (.inr h21)]; rfl
 by_cases h4 : x.tag = 4
 · have := arrayV_app l (ha (.inl h4)); simp only [h4, this, ha (.inl h4)]; rfl
 by_cases h22 : x.tag = 22
 · have := arrayV_app l (ha (.inr h22)); simp only [h22, this, ha (.inr h22)]; rfl
 simp only [if_neg h3, if_neg h21, if_neg h4, if_neg h22]
theorem isZ_plainV {x : Nd} (h : isZ V x ≠ -1) (ht : x.tag = 21) : plainV V x.n = true := by
 cases hh : plainV V x.n with
 | true => rfl
 | false => exact absurd (by unfold isZ; rw [ht, hh]; rfl) h
theorem wantZ_app {x : Nd} (n : Nat) (h : isZ V x ≠ -1) : wantZ (V ++ l) x n = wantZ V x n := by
 unfold wantZ
 by_cases ht : x.tag = 21
 · rw [(plainV_app l (isZ_plainV h ht)).2]
 · simp only [if_neg ht]
theorem wantZ_ne {x : Nd} (n : Nat) (h : isZ V x ≠ -1) : ∀ k ∈ wantZ V x n, k ≠ -1 := by
 intro k hk
 unfold wantZ at hk
 by_cases ht : x.tag = 21
 · obtain ⟨t, h1, h2⟩ := plainV_get (isZ_plainV h ht)
   rw [h1] at hk
   simp [ht] at hk
   omega
 · rw [if_neg ht] at hk
   repeat' split at hk
   all_goals (simp at hk; try omega)
mutual
theorem ofT_app : ∀ t : Tr, ofT V t ≠ -1 → ofT (V ++ l) t = ofT V t
 | .node x ks, h => by
  obtain ⟨h1, h2, h3, h4⟩ := ofT_typed h
  have h5 := okKids_app ks (wantZ V x ks.length) (inner x) true h4 (wantZ_ne _ h2)
  rw [h1, ofT, isZ_app l h2, wantZ_app l _ h2, if_neg (by rintro (e | e); exact h2 e; exact e h3), if_pos h5]
theorem okKids_app : ∀ (ts : List Tr) (ks : List Int) (inn f : Bool), okKids V inn f ts ks = true → (∀ k ∈ ks, k ≠ -1) → okKids (V ++ l) inn f ts ks = true
 | [], _, _, _, _, _ => by rw [okKids]
 | _ :: _, [], _, _, _, _ => by rw [okKids]
 | t :: ts, k :: ks, inn, f, h, hk => by
  rw [okKids] at h ⊢
  simp only [Bool.and_eq_true, beq_iff_eq] at h ⊢
  refine ⟨⟨?_, h.1.2⟩, okKids_app ts ks inn false h.2 (fun j hj => hk j (by simp [hj]))⟩
  rw [ofT_app t (by rw [h.1.1]; exact hk k (by simp))]
  exact h.1.1
end
end
def Ms.plus (s : Ms) (x : Int) (a : List Int) : Ms := { s with vals := s.vals ++ [x], arrs := s.arrs ++ [a] }
theorem plus_arr {s : Ms} {n : Int} (x : Int) (a : List Int) (h : n.toNat < s.arrs.length) : (s.plus x a).arr n = s.arr n := by
 unfold Ms.arr Ms.plus
 rw [List.getElem?_append_left h]
theorem plus_setv {s : Ms} {n v : Int} (x : Int) (a : List Int) (h : n.toNat < s.vals.length) : (s.setv n v).plus x a = (s.plus x a).setv n v := by
 unfold Ms.setv Ms.plus
 simp only [List.set_append_left _ _ h]
theorem plus_seta {s : Ms} {n i v : Int} (x : Int) (a : List Int) (h : n.toNat < s.arrs.length) : (s.seta n i v).plus x a = (s.plus x a).seta n i v := by
 unfold Ms.seta
 rw [plus_arr x a h]
 unfold Ms.plus
 simp only [List.set_append_left _ _ h]
theorem okO_var {V : List Int} {x : Nd} {ks : List Tr} (hg : okO V (.node x ks)) (ht : x.tag = 3 ∨ x.tag = 21 ∨ x.tag = 4 ∨ x.tag = 22) : x.n.toNat < V.length := by
 obtain ⟨k, sh, hk⟩ := okO_shape hg
 cases sh <;> first | omega | skip
 case var hn hv _ => exact (List.getElem?_eq_some_iff.1 hv).1
 case at_ hn t hv _ _ => exact (List.getElem?_eq_some_iff.1 hv).1
 case set hn t hv _ _ => exact (List.getElem?_eq_some_iff.1 hv).1
 case put hn t hv _ _ _ => exact (List.getElem?_eq_some_iff.1 hv).1
theorem Big.plus {V : List Int} (x : Int) (a : List Int) {g : Gl} {s s' : Ms} {v : Int} (h : Big g s v s') : okG V g → OkS V s → Big g (s.plus x a) v (s'.plus x a) := by
 induction h with
 | nil s => exact fun _ _ => .nil _
 | cons t ts s s1 s2 v u h1 h2 i1 i2 =>
  intro hg hs
  have hk := (hg t (by simp)).1
  exact .cons t ts _ _ _ v u (i1 hk hs) (i2 (fun k hk => hg k (by simp [hk])) (h1.inv hk hs).1)
 | over t s h => exact fun _ _ => .over t _ h
 | empty t s h h0 => exact fun _ _ => .empty t (s.plus x a) h h0
 | lit y s h ht => exact fun _ _ => .lit y (s.plus x a) h ht
 | var y s h ht =>
  intro hg hs
  have hl := okO_var hg (.inl ht)
  have := Big.var y (s.plus x a) h ht
  rw [show (s.plus x a).vals = s.vals ++ [x] from rfl, List.getElem?_append_left (by rw [hs.vlen]; exact hl)] at this
  exact this
 | skip y s h ht => exact fun _ _ => .skip y (s.plus x a) h ht
 | block y ks s s1 u h ht h1 i1 =>
  intro hg hs
  obtain ⟨k, sh, hk⟩ := okO_shape hg
  have hk2 : ∀ k ∈ ks, ofT V k = 2 := by cases sh <;> first | omega | assumption
  exact .block y ks (s.plus x a) _ u h ht (i1 (fun k hk => ⟨okO_kid hg hk, hk2 k hk⟩) hs.tick)
 | cut y b ks s s1 v h ht h1 ho i1 => exact fun hg hs => .cut y b ks (s.plus x a) _ v h ht (i1 (okO_kid hg (by simp)) hs.tick) ho
 | atNo y b s s1 v h ht h1 ho hb i1 =>
  intro hg hs
  have hl := okO_var hg (.inr (.inr (.inl ht)))
  have hs1 := (h1.inv (okO_kid hg (by simp) : okG _ (.one b)) hs.tick).1
  exact .atNo y b (s.plus x a) (s1.plus x a) v h ht (i1 (okO_kid hg (by simp)) hs.tick) ho (by rw [plus_arr x a (by rw [hs1.alen]; exact hl)]; exact hb)
 | at_ y b s s1 v h ht h1 ho hb i1 =>
  intro hg hs
  have hl := okO_var hg (.inr (.inr (.inl ht)))
  have hs1 := (h1.inv (okO_kid hg (by simp) : okG _ (.one b)) hs.tick).1
  have e := plus_arr (s := s1) (n := y.n) x a (by rw [hs1.alen]; exact hl)
  have := Big.at_ y b (s.plus x a) (s1.plus x a) v h ht (i1 (okO_kid hg (by simp)) hs.tick) ho (by rw [e]; exact hb)
  rw [e] at this
  exact this
 | neg y b s s1 v h ht h1 ho i1 => exact fun hg hs => .neg y b (s.plus x a) _ v h ht (i1 (okO_kid hg (by simp)) hs.tick) ho
 | not y b s s1 v h ht h1 ho i1 => exact fun hg hs => .not y b (s.plus x a) _ v h ht (i1 (okO_kid hg (by simp)) hs.tick) ho
 | and0 y b c s s1 h ht h1 ho i1 => exact fun hg hs => .and0 y b c (s.plus x a) _ h ht (i1 (okO_kid hg (by simp)) hs.tick) ho
 | and1 y b c s s1 s2 v u h ht h1 ho hv h2 i1 i2 => exact fun hg hs => .and1 y b c (s.plus x a) _ _ v u h ht (i1 (okO_kid hg (by simp)) hs.tick) ho hv (i2 (okO_kid hg (by simp)) (h1.inv (okO_kid hg (by simp) : okG _ (.one b)) hs.tick).1)
 | or1 y b c s s1 h ht h1 ho i1 => exact fun hg hs => .or1 y b c (s.plus x a) _ h ht (i1 (okO_kid hg (by simp)) hs.tick) ho
 | or0 y b c s s1 s2 v u h ht h1 ho hv h2 i1 i2 => exact fun hg hs => .or0 y b c (s.plus x a) _ _ v u h ht (i1 (okO_kid hg (by simp)) hs.tick) ho hv (i2 (okO_kid hg (by simp)) (h1.inv (okO_kid hg (by simp) : okG _ (.one b)) hs.tick).1)
 | set y b s s1 v h ht h1 ho i1 =>
  intro hg hs
  have hl := okO_var hg (.inr (.inl ht))
  have hs1 := (h1.inv (okO_kid hg (by simp) : okG _ (.one b)) hs.tick).1
  rw [plus_setv x a (by rw [hs1.vlen]; exact hl)]
  exact .set y b (s.plus x a) (s1.plus x a) v h ht (i1 (okO_kid hg (by simp)) hs.tick) ho
 | ifs y b c d t s s1 s2 v u h ht h1 ho hv h2 i1 i2 =>
  intro hg hs
  exact .ifs y b c d t (s.plus x a) _ _ v u h ht (i1 (okO_kid hg (by simp)) hs.tick) ho hv (i2 (okO_kid hg (List.mem_of_getElem? hv)) (h1.inv (okO_kid hg (by simp) : okG _ (.one b)) hs.tick).1)
 | while0 y b c s s1 v h ht h1 ho hv i1 => exact fun hg hs => .while0 y b c (s.plus x a) _ v h ht (i1 (okO_kid hg (by simp)) hs.tick) ho hv
 | while1 y b c s s1 s2 s3 u r h ht h1 ho h2 h3 i1 i2 i3 =>
  intro hg hs
  have hs1 := (h1.inv (okO_kid hg (by simp) : okG _ (.one b)) hs.tick).1
  exact .while1 y b c (s.plus x a) _ _ _ u r h ht (i1 (okO_kid hg (by simp)) hs.tick) ho (i2 (okO_kid hg (by simp)) hs1) (i3 hg (h2.inv (okO_kid hg (by simp) : okG _ (.one c)) hs1).1)
 | ret y b s s1 v h ht h1 ho i1 => exact fun hg hs => .ret y b (s.plus x a) (s1.plus x a) v h ht (i1 (okO_kid hg (by simp)) hs.tick) ho
 | cut2 y b c s s1 s2 v u h ht h1 ho h2 ho2 i1 i2 => exact fun hg hs => .cut2 y b c (s.plus x a) (s1.plus x a) (s2.plus x a) v u h ht (i1 (okO_kid hg (by simp)) hs.tick) ho (i2 (okO_kid hg (by simp)) (h1.inv (okO_kid hg (by simp) : okG _ (.one b)) hs.tick).1) ho2
 | putNo y b c s s1 s2 v u h ht h1 ho h2 ho2 hb i1 i2 =>
  intro hg hs
  have hl := okO_var hg (.inr (.inr (.inr ht)))
  have hs1 := (h1.inv (okO_kid hg (by simp) : okG _ (.one b)) hs.tick).1
  have hs2 := (h2.inv (okO_kid hg (by simp) : okG _ (.one c)) hs1).1
  exact .putNo y b c (s.plus x a) (s1.plus x a) (s2.plus x a) v u h ht (i1 (okO_kid hg (by simp)) hs.tick) ho (i2 (okO_kid hg (by simp)) hs1) ho2 (by rw [plus_arr x a (by rw [hs2.alen]; exact hl)]; exact hb)
 | put y b c s s1 s2 v u h ht h1 ho h2 ho2 hb i1 i2 =>
  intro hg hs
  have hl := okO_var hg (.inr (.inr (.inr ht)))
  have hs1 := (h1.inv (okO_kid hg (by simp) : okG _ (.one b)) hs.tick).1
  have hs2 := (h2.inv (okO_kid hg (by simp) : okG _ (.one c)) hs1).1
  rw [plus_seta x a (by rw [hs2.alen]; exact hl)]
  exact .put y b c (s.plus x a) (s1.plus x a) (s2.plus x a) v u h ht (i1 (okO_kid hg (by simp)) hs.tick) ho (i2 (okO_kid hg (by simp)) hs1) ho2 (by rw [plus_arr x a (by rw [hs2.alen]; exact hl)]; exact hb)
 | pairNo y b c s s1 s2 v u h ht h1 ho h2 ho2 hp i1 i2 => exact fun hg hs => .pairNo y b c (s.plus x a) (s1.plus x a) (s2.plus x a) v u h ht (i1 (okO_kid hg (by simp)) hs.tick) ho (i2 (okO_kid hg (by simp)) (h1.inv (okO_kid hg (by simp) : okG _ (.one b)) hs.tick).1) ho2 hp
 | pair y b c s s1 s2 v u d h ht h1 ho h2 ho2 hp i1 i2 => exact fun hg hs => .pair y b c (s.plus x a) (s1.plus x a) (s2.plus x a) v u d h ht (i1 (okO_kid hg (by simp)) hs.tick) ho (i2 (okO_kid hg (by simp)) (h1.inv (okO_kid hg (by simp) : okG _ (.one b)) hs.tick).1) ho2 hp
end Go.Proofs.Ytlglilmgklipdaa
namespace Go.Proofs.Ytlglilmgklipdaa
set_option linter.unusedVariables false
open Go.RowKit Go.Deep
theorem run_plus {p q : PgV} {args : List Int} {F ty : Int} {t : Tr} {v : Int} {s' : Ms} (h : RunK p args F t v s') (hc : checkZ p args.length F = 0) (hty : 0 ≤ ty ∧ ty ≤ 9) (hl : p.V.length < 12)
 (hqp : q.params = p.params) (hqV : q.V = p.V ++ [ty]) (hqb : q.body = p.body) : checkZ q args.length F = 0 ∧ SameS (runZ q args F) (runZ p args F) := by
 have hv := h.good.vars
 have hg : Good q t := by
  refine ⟨by rw [hqb]; exact h.good.hat, by rw [hqb]; exact h.good.size, ?_, h.good.tag, by rw [hqV, ofT_app _ _ (by rw [h.good.kind]; omega)]; exact h.good.kind⟩
  rw [hqp, hqV]
  refine ⟨hv.1, by have := hv.2.1; simp; omega, by simp; omega, fun j hj => ?_⟩
  by_cases hjl : j < p.V.length
  · have := hv.2.2.2 j hjl
    rw [List.getD_eq_getElem?_getD, List.getElem?_append_left hjl, ← List.getD_eq_getElem?_getD]
    exact this
  · obtain rfl : j = p.V.length := by simp at hj; omega
    rw [List.getD_eq_getElem?_getD, List.getElem?_append_right (Nat.le_refl _), Nat.sub_self]
    have := hv.2.1
    simp only [List.getElem?_cons_zero, Option.getD_some, okVar, decide_eq_true_eq]
    omega
 have hcq : checkZ q args.length F = 0 := by
  rw [checkZ_good hg, hqp, ← checkZ_good h.good]; exact hc
 have hb := h.big.plus (V := p.V) (args.getD p.V.length 0) (List.replicate (sizeZ ty).toNat 0) (g := .one t) h.okO h.init
 have hi : (initS p.V args F.toNat).plus (args.getD p.V.length 0) (List.replicate (sizeZ ty).toNat 0) = initS q.V args F.toNat := by
  rw [hqV]
  unfold Ms.plus initS vals0 arrs0
  simp [List.range_succ]
 rw [hi] at hb
 refine ⟨hcq, ?_⟩
 rw [runZ_of hcq ⟨t, v, _, hg, hb, rfl⟩, h.eq]
 unfold Ms.stopped
 show SameS (if s'.out.isSome then _ else _) _
 split <;> exact ⟨rfl, rfl, rfl⟩
end Go.Proofs.Ytlglilmgklipdaa
namespace Go.Proofs.Ytlglilmgklipdaa
set_option linter.unusedVariables false
open Go.RowKit Go.Deep
set_option maxRecDepth 100000 in
set_option maxHeartbeats 2000000 in
theorem refInts_any (A B : Option Addr) (c d na nb : Nat) (a b : List Int) (w : World) (hna : na = a.length) (hnb : nb = b.length) (ha : Rd w A (ints a)) (hb : Rd w B (ints b)) (hla : a.length ≤ 1000000) :
 Calls Try.prog 26 #[.slice A na c, .slice B nb d] w fun e w' => e = .returned (.bool (decide (a = b))) ∧ Below w.heap.size w w' := by
 by_cases hl : na = nb
 rotate_left
 · have hlI : ((na : Int) != (nb : Int)) = true := by simp; omega
   have hne : a ≠ b := fun e => hl (by rw [hna, hnb, e])
   have Hne : Hid (decide (a = b) = false) := by show _ = _; simp [hne]
   clear hl hna hnb hne ha hb hla
   go_enter Try.func26, Try.ntmps26
   go_wp2
   go_ret
   exact ⟨ret_b Hne.out, Below.refl _ _⟩
 subst hl
 have Ha := Lib.hid hna
 have Hb := Lib.hid hnb
 have hn6 : (na : Int) ≤ 1000000 := by omega
 clear hna hnb hla
 obtain ⟨S, hSd⟩ : ∃ S, S = (fun W => Rd W A (ints a) ∧ Rd W B (ints b) ∧ Below w.heap.size w W) := ⟨_, rfl⟩
 have stS : St S := by rw [hSd]; infer_instance
 have S0' : Hid (∀ W, S W → Rd W A (ints a)) := by show ∀ W, _; rw [hSd]; exact fun W h => h.1
 have S1' : Hid (∀ W, S W → Rd W B (ints b)) := by show ∀ W, _; rw [hSd]; exact fun W h => h.2.1
 have S2' : Hid (∀ W, S W → Below w.heap.size w W) := by show ∀ W, _; rw [hSd]; exact fun W h => h.2.2
 have hS : S w := by rw [hSd]; exact ⟨ha, hb, Below.refl _ _⟩
 clear hSd ha hb
 go_enter Try.func26, Try.ntmps26
 go_wp2
 go_loopw [5] (fun i wr => ∃ k : Nat, i = .int .i64 (k : Int) ∧ k ≤ na ∧ Hid (a.take k = b.take k) ∧ S wr) (fun i _ => na - (intOf i).toNat)
 case atStart => exact ⟨0, by simp, Nat.zero_le _, by simp [Hid], hS⟩
 case round =>
  clear hS
  obtain ⟨k, rfl, hk, Hk, hS⟩ := hrel
  by_cases hkn : k < na
  · obtain ⟨e, he⟩ : ∃ e, a[k]? = some e := ⟨_, List.getElem?_eq_getElem (by have := Ha.out; omega)⟩
    obtain ⟨f, hf⟩ : ∃ f, b[k]? = some f := ⟨_, List.getElem?_eq_getElem (by have := Hb.out; omega)⟩
    obtain ⟨ad, had, _⟩ := int_at (S0'.out _ hS) he
    obtain ⟨bd, hbd, _⟩ := int_at (S1'.out _ hS) hf
    subst had hbd
    have Hca : Hid (∀ W, S W → W.cell? (ad.add k) = some (.int .i64 e)) := fun W h => by
     obtain ⟨ad', h1, h2⟩ := int_at (S0'.out _ h) he
     injection h1 with h1; subst h1; exact h2
    have Hcb : Hid (∀ W, S W → W.cell? (bd.add k) = some (.int .i64 f)) := fun W h => by
     obtain ⟨ad', h1, h2⟩ := int_at (S1'.out _ h) hf
     injection h1 with h1; subst h1; exact h2
    have He := Lib.hid he
    have Hf := Lib.hid hf
    have hkn' : (k : Int) < (na : Int) := by omega
    have ewk : IntKind.i64.wrap ((k : Int) + 1) = (k : Int) + 1 := IntWalk.i64_in _ (by omega)
    clear he hf
    go_wp2
    refine region_hold S (by kernel_rfl) (by kernel_rfl) (St.drew hS) ?_
    clear hS
    iterate 3 (refine hold_value rfl ?_ (fun W hW => ?_) ?_; rotate_left; (focus (go_simp; exact rfl)); simp only [Act.put, List.setIfInBounds_toArray, List.set_cons_zero, List.set_cons_succ])
    (refine hold_value rfl ?_ (fun W hW => ?_) ?_; rotate_left; (focus (have c := Hca.out W hW; go_simp; exact rfl)); simp only [Act.put, List.setIfInBounds_toArray, List.set_cons_zero, List.set_cons_succ])
    iterate 3 (refine hold_value rfl ?_ (fun W hW => ?_) ?_; rotate_left; (focus (go_simp; exact rfl)); simp only [Act.put, List.setIfInBounds_toArray, List.set_cons_zero, List.set_cons_succ])
    (refine hold_value rfl ?_ (fun W hW => ?_) ?_; rotate_left; (focus (have c := Hcb.out W hW; go_simp; exact rfl)); simp only [Act.put, List.setIfInBounds_toArray, List.set_cons_zero, List.set_cons_succ])
    (refine hold_value rfl ?_ (fun W hW => ?_) ?_; rotate_left; (focus (go_simp; exact rfl)); simp only [Act.put, List.setIfInBounds_toArray, List.set_cons_zero, List.set_cons_succ])
    refine wpHold_nil fun W hS => ?_
    by_cases hef : e = f
    · subst hef
      have hnn : (e != e) = false := by simp
      have Hst : Hid (a.take (k + 1) = b.take (k + 1)) := by
       show _ = _
       rw [List.take_add_one, List.take_add_one, Hk.out, He.out, Hf.out]
      clear Hca Hcb He Hf Hk
      go_wp2
      go_roundw
      case rel => exact ⟨k + 1, by go_num, by omega, Hst, hS⟩
      case measure => simp [intOf]; omega
    · have hnn : (e != f) = true := by simpa using hef
      have Hne : Hid (decide (a = b) = false) := by
       show _ = _
       have : a ≠ b := fun h => hef (by
        have h1 := He.out
        rw [h, Hf.out] at h1
        exact (Option.some.inj h1).symm)
       simp [this]
      clear Hca Hcb He Hf Hk hef
      go_wp2
      go_ret
      exact ⟨ret_b Hne.out, S2'.out _ hS⟩
  · obtain rfl : k = na := by omega
    have Heq : Hid (decide (a = b) = true) := by
     show _ = _
     have h1 := Hk.out
     rw [List.take_of_length_le (by have := Ha.out; omega), List.take_of_length_le (by have := Hb.out; omega)] at h1
     simp [h1]
    clear hkn hk
    go_wp2
    go_ret
    exact ⟨ret_b Heq.out, S2'.out _ hS⟩
end Go.Proofs.Ytlglilmgklipdaa
namespace Go.Proofs.Ytlglilmgklipdaa
set_option linter.unusedVariables false
open Go.RowKit Go.Deep
theorem own_formS {w : World} {base n size : Nat} {e : TypeId} {v : Value} {xs : List Value} (h : w.ownsRow base e size v (n + 1) xs) : ∃ g cap, v = .slice (some ⟨g, 0, none⟩) (n + 1) cap := by
 rcases h.2 with ⟨_, h0⟩ | ⟨g, cap, cur, rfl, _⟩
 · omega
 · exact ⟨g, cap, rfl⟩
theorem own_emptyS {W' : World} {B g size : Nat} {e : TypeId} (hB : B ≤ g) (h : Row W' g e #[]) : W'.ownsRow B e size (.slice (some ⟨g, 0, none⟩) 0 0) 0 [] :=
 ⟨by simp, .inr ⟨g, 0, #[], rfl, hB, h, Nat.le_refl _, Nat.zero_le _, by simp, by simp⟩⟩
theorem run_exec_bslice {P : Program} {o : Oper} {w w1 : World} {ρ : Operand → Value} {t : TypeId} {n : Nat} (ps : List (Nat × Operand)) (ho : o.op = .buildSlice t n ps.toArray) {v : Value} (hv : (Instr.buildSlice t n (ps.map fun (i, x) => (i, ρ x)).toArray).run P w = .ok v w1) : (execOp ρ o).run P w = .ok (.value v) w1 := by
 simp only [execOp, ho, Sem.run_bind, List.map_toArray, hv, Result.andThen_ok, Sem.run_pure]
theorem run_exec_append {P : Program} {o : Oper} {w w1 : World} {ρ : Operand → Value} {s x : Operand} {t : TypeId} (ho : o.op = .call { callee := .builtin .append, args := #[s, x], argTypes := #[t, t] }) {v : Value} (hv : (Builtin.append_ #[t, t] o.type #[ρ s, ρ x]).run P w = .ok v w1) : (execOp ρ o).run P w = .ok (.value v) w1 := by
 unfold execOp
 simp only [ho, resolve, invoke, builtin, Sem.run_bind, Sem.run_pure, Result.andThen_ok, List.map_toArray, List.map_cons, List.map_nil, hv]
theorem run_append_nil {P : Program} {w : World} {base size n c : Nat} {t ty e : TypeId} {i : TypeInfo} {v : Value} {xs : List Value} (ht : P.underlying t = some (.slice e)) (hi : P.info? e = some i) (hown : w.ownsRow base e size v n xs) : (Builtin.append_ #[t, t] ty #[v, .slice none 0 c]).run P w = .ok v w := by
 rcases hown.2 with ⟨rfl, rfl⟩ | ⟨g, cap, cur, rfl, _, _, hnc, _⟩
 · simp [Builtin.append_, run_underlying ht, sizeOf, typeInfo, hi, Builtin.lenOf, Builtin.firstCells]
 · simp [Builtin.append_, run_underlying ht, sizeOf, typeInfo, hi, Builtin.lenOf, Builtin.firstCells, hnc, storeCells]
theorem append_rd {P : Program} (t e : TypeId) (z : Value) (size bytes : Nat) (ht : P.underlying t = some (.slice e)) (hinf : (P.info? e).map (fun i => (i.zero, i.size, i.bytes)) = some (some z, size, bytes)) (hzs : z.cells.size = size) (hsz : 0 < size) (hby : bytes ≤ 100)
 {W : World} {B n m cap : Nat} {v : Value} {xs cs : List Value} {A : Option Addr} (hown : W.ownsRow B e size v n xs) (hB : B ≤ W.heap.size) (hr : Rd W A cs) (hlen : cs.length = m * size) (h1 : ∀ u ∈ cs, u.oneCell' = true) (hA : A = none → m = 0) (hb : n + m ≤ 1000000) :
 ∃ v' W', (Builtin.append_ #[t, t] t #[v, .slice A m cap]).run P W = .ok v' W' ∧ W'.ownsRow B e size v' (n + m) (xs ++ cs) ∧ W.grownBy W' v.ownBlock ∧ (v'.ownBlock = v.ownBlock ∨ v'.ownBlock = some W.heap.size) := by
 obtain ⟨i0, hi0, hz0, hz1, hz2⟩ := info_parts hinf
 rcases A with _ | ad
 · have h0 := hA rfl
   subst h0
   have hl : cs = [] := List.eq_nil_of_length_eq_zero (by simpa using hlen)
   subst hl
   exact ⟨v, W, run_append_nil ht hi0 hown, by simpa using hown, World.grownBy.refl _ _, .inl rfl⟩
 · obtain ⟨v', W', h1, h2, h3, _, h5⟩ := run_append_own_at (P := P) W B t t e i0 z size bytes ht hi0 hz0 hz1 hz2 hzs hsz v n xs hown ad m cap cs hlen
    (fun j u hj => by obtain ⟨ad', e, hc⟩ := hr j u hj; injection e with e; subst e; exact hc) h1 (by unfold maxLen; omega) (by have := Nat.mul_le_mul hb hby; omega) hB
   exact ⟨v', W', h1, h2, h3, h5⟩
end Go.Proofs.Ytlglilmgklipdaa
