/- Lemmas for DirectTurnedP. -/
import Derived.Test.YtlglilmgklipdaaZv8
import Derived.Test.YtlglilmgklipdaaZv13
import Derived.Test.YtlglilmgklipdaaZv2
import Derived.Test.YtlglilmgklipdaaZv7
import Derived.Test.YtlglilmgklipdaaZv3
import Derived.Test.YtlglilmgklipdaaZv4
import Derived.Test.YtlglilmgklipdaaZv1
import Derived.Maps.AppendAt
import Derived.Deep.Cut
import Derived.Lib.AppendZerosOnto
namespace Go.Proofs.Ytlglilmgklipdaa
set_option linter.unusedVariables false
open Go.RowKit Go.Deep
set_option maxRecDepth 100000 in
set_option maxHeartbeats 16000000 in
theorem works17_any (w : World) : Calls Try.prog 21 #[] w fun e w' => e = .returned (.bool true) ∧ Below w.heap.size w w' := by
 go_enter Try.func21, Try.ntmps21
 obtain ⟨S0, hSd⟩ : ∃ S : World → Prop, S = (fun W => Below w.heap.size w W) := ⟨_, rfl⟩
 have st0 : St S0 := by rw [hSd]; infer_instance
 have F_low : Hid (∀ W, S0 W → Below w.heap.size w W) := by show ∀ W, _; rw [hSd]; exact fun W h => h
 have HS0 : Hid (S0 w) := by show S0 w; rw [hSd]; exact Below.refl _ _
 clear hSd
 go_wp2_with (refine at_slice _ _ _ rfl ?_)
 refine Stop.to ?_
 refine wpList_slice_gen rfl 22 1 _ rfl 3 (ints [0]).toArray (bs_run Try.underlying22 info_i (by decide) (by decide) (by kernel_rfl)) ?_
 intro G_1 w_2 hG rG bG
 have hprev := st0.go HS0.out (bG.mono hG)
 obtain ⟨S1, hSd⟩ : ∃ S : World → Prop, S = (fun W => S0 W ∧ Row W G_1 3 (ints [0]).toArray) := ⟨_, rfl⟩
 have st1 : St S1 := by rw [hSd]; infer_instance
 have D1 : Hid (∀ W, S1 W → S0 W) := by show ∀ W, _; rw [hSd]; exact fun W h => h.1
 have F_v1 : Hid (∀ W, S1 W → Row W G_1 3 (ints [0]).toArray) := by show ∀ W, _; rw [hSd]; exact fun W h => h.2
 have HS1 : Hid (S1 w_2) := by show S1 w_2; rw [hSd]; exact ⟨hprev, rG⟩
 clear hSd
 clear hprev HS0 hG rG bG
 go_wp2_with (refine at_slice _ _ _ rfl ?_)
 refine Stop.to ?_
 refine wpList_slice_gen rfl 23 5 _ rfl 44 (bodyW.flatMap Nd.cells).toArray (bs_run Try.underlying23 info_n (by decide) (by decide) (by kernel_rfl)) ?_
 intro G_3 w_4 hG rG bG
 have hprev := st1.go HS1.out (bG.mono hG)
 obtain ⟨S2, hSd⟩ : ∃ S : World → Prop, S = (fun W => S1 W ∧ Row W G_3 44 (bodyW.flatMap Nd.cells).toArray) := ⟨_, rfl⟩
 have st2 : St S2 := by rw [hSd]; infer_instance
 have D2 : Hid (∀ W, S2 W → S1 W) := by show ∀ W, _; rw [hSd]; exact fun W h => h.1
 have F_n1 : Hid (∀ W, S2 W → Row W G_3 44 (bodyW.flatMap Nd.cells).toArray) := by show ∀ W, _; rw [hSd]; exact fun W h => h.2
 have HS2 : Hid (S2 w_4) := by show S2 w_4; rw [hSd]; exact ⟨hprev, rG⟩
 clear hSd
 clear hprev HS1 hG rG bG
 have hok := pW_ok (F_v1.out _ (D2.out _ HS2.out)) (F_n1.out _ HS2.out)
 go_wp2_with (refine at_alloc _ rfl ?_)
 refine Stop.to ?_
 refine wpList_alloc_gen rfl 25 rfl _ _ zero_prog rfl ?_
 intro G_6 w_7 hG rG bG
 go_wp2_with (refine at_store _ _ _ rfl ?_)
 refine Stop.to ?_
 refine wpList_store_gen rfl 25 _ _ rfl G_6 (pW G_1 G_3).cells rfl rfl 25 _ rG (by kernel_rfl) rfl (prog_one _) ?_
 intro w_8 rH oH
 have bH : Below (w_4).heap.size w_4 w_8 := (bG.mono hG).trans (oH.below hG)
 have hprev := st2.go HS2.out (bH)
 obtain ⟨S3, hSd⟩ : ∃ S : World → Prop, S = (fun W => S2 W ∧ Row W G_6 25 (pW G_1 G_3).cells) := ⟨_, rfl⟩
 have st3 : St S3 := by rw [hSd]; infer_instance
 have D3 : Hid (∀ W, S3 W → S2 W) := by show ∀ W, _; rw [hSd]; exact fun W h => h.1
 have F_P1 : Hid (∀ W, S3 W → Row W G_6 25 (pW G_1 G_3).cells) := by show ∀ W, _; rw [hSd]; exact fun W h => h.2
 have HS3 : Hid (S3 w_8) := by show S3 w_8; rw [hSd]; exact ⟨hprev, rH⟩
 clear hSd
 clear hprev HS2 hG rG bG rH oH bH
 clear hok
 have hokAll : Hid (∀ W, S3 W → (pW G_1 G_3).ok W) := by show ∀ W, _; exact fun W hW => pW_ok (F_v1.out _ (D2.out _ (D3.out _ hW))) (F_n1.out _ (D3.out _ hW))
 have F_ok1 := hokAll
 clear hokAll
 go_wp2_with (first | (refine wpList_load_row rfl 25 _ rfl G_6 rfl 25 (pW G_1 G_3).cells (0, 0) _ (F_P1.out _ HS3.out) Try.underlying25 rfl (by kernel_rfl) ?_) | (refine at_slice _ _ _ rfl ?_))
 refine Stop.to ?_
 refine wpList_slice_gen rfl 22 1 _ rfl 3 (ints [4]).toArray (bs_run Try.underlying22 info_i (by decide) (by decide) (by kernel_rfl)) ?_
 intro G_9 w_10 hG rG bG
 have hprev := st3.go HS3.out (bG.mono hG)
 obtain ⟨S4, hSd⟩ : ∃ S : World → Prop, S = (fun W => S3 W ∧ Row W G_9 3 (ints [4]).toArray) := ⟨_, rfl⟩
 have st4 : St S4 := by rw [hSd]; infer_instance
 have D4 : Hid (∀ W, S4 W → S3 W) := by show ∀ W, _; rw [hSd]; exact fun W h => h.1
 have F_a_r : Hid (∀ W, S4 W → Row W G_9 3 (ints [4]).toArray) := by show ∀ W, _; rw [hSd]; exact fun W h => h.2
 have HS4 : Hid (S4 w_10) := by show S4 w_10; rw [hSd]; exact ⟨hprev, rG⟩
 clear hSd
 clear hprev HS3 hG rG bG
 go_wp2_with fail
 refine (dRunA (pW G_1 G_3) (some ⟨G_9, 0, none⟩) 1 [4] 5 w_10 (by show 5 ≤ 1000; omega) (by decide) (F_ok1.out _ (D4.out _ HS4.out)) (rd_row (F_a_r.out _ HS4.out)) (by simp [InI])).mono ?_
 rintro e w_11 ⟨A_r, cap_r, rfl, hrd, _, _, _, bb⟩
 rw [runW5 (F_ok1.out _ (D4.out _ HS4.out))] at hrd ⊢
 rw [show checkZ (pW G_1 G_3) (List.length ([4] : List Int)) 5 = 0 from by first | (rw [checkW]; done) | (rw [checkW]; rfl)]
 have hprev := st4.go HS4.out (bb)
 replace HS4 := Lib.hid hprev
 clear hprev bb hrd
 go_wp2_with (refine at_alloc _ rfl ?_)
 refine Stop.to ?_
 refine wpList_alloc_gen rfl 32 rfl _ _ zero_run2 rfl ?_
 intro G_12 w_13 hG rG bG
 go_wp2_with (refine at_store _ _ _ rfl ?_)
 refine Stop.to ?_
 refine wpList_store_gen rfl 32 _ _ rfl G_12 #[.int .i64 0, .int .i64 5, .int .i64 5, .slice A_r 0 cap_r] rfl rfl 32 _ rG (by kernel_rfl) rfl (run_one _ _ _ rfl) ?_
 intro w_14 rH oH
 have bH : Below (w_11).heap.size w_11 w_14 := (bG.mono hG).trans (oH.below hG)
 have hprev := st4.go HS4.out (bH)
 obtain ⟨S5, hSd⟩ : ∃ S : World → Prop, S = (fun W => S4 W ∧ Row W G_12 32 #[.int .i64 0, .int .i64 5, .int .i64 5, .slice A_r 0 cap_r]) := ⟨_, rfl⟩
 have st5 : St S5 := by rw [hSd]; infer_instance
 have D5 : Hid (∀ W, S5 W → S4 W) := by show ∀ W, _; rw [hSd]; exact fun W h => h.1
 have F_r : Hid (∀ W, S5 W → Row W G_12 32 #[.int .i64 0, .int .i64 5, .int .i64 5, .slice A_r 0 cap_r]) := by show ∀ W, _; rw [hSd]; exact fun W h => h.2
 have HS5 : Hid (S5 w_14) := by show S5 w_14; rw [hSd]; exact ⟨hprev, rH⟩
 clear hSd
 clear hprev HS4 hG rG bG rH oH bH
 go_wp2_with (refine wpList_load_row rfl 25 _ rfl G_6 rfl 25 (pW G_1 G_3).cells (0, 0) _ (F_P1.out _ (D4.out _ (D5.out _ HS5.out))) Try.underlying25 rfl (by kernel_rfl) ?_)
 refine (dRunA (pW G_1 G_3) none 0 [] 4 w_14 (by show 5 ≤ 1000; omega) (by decide) (F_ok1.out _ (D4.out _ (D5.out _ HS5.out))) (Rd.nil _ _) (by simp)).mono ?_
 rintro e w_15 ⟨A_g, cap_g, rfl, hrd, _, _, _, bb⟩
 rw [runWn] at hrd ⊢
 rw [show checkZ (pW G_1 G_3) (List.length ([] : List Int)) 4 = 18 from by first | (rw [checkW]; done) | (rw [checkW]; rfl)]
 have hprev := st5.go HS5.out (bb)
 replace HS5 := Lib.hid hprev
 clear hprev bb hrd
 go_wp2_with (refine at_alloc _ rfl ?_)
 refine Stop.to ?_
 refine wpList_alloc_gen rfl 32 rfl _ _ zero_run2 rfl ?_
 intro G_16 w_17 hG rG bG
 go_wp2_with (refine at_store _ _ _ rfl ?_)
 refine Stop.to ?_
 refine wpList_store_gen rfl 32 _ _ rfl G_16 #[.int .i64 0, .int .i64 0, .int .i64 0, .slice A_g 0 cap_g] rfl rfl 32 _ rG (by kernel_rfl) rfl (run_one _ _ _ rfl) ?_
 intro w_18 rH oH
 have bH : Below (w_15).heap.size w_15 w_18 := (bG.mono hG).trans (oH.below hG)
 have hprev := st5.go HS5.out (bH)
 obtain ⟨S6, hSd⟩ : ∃ S : World → Prop, S = (fun W => S5 W ∧ Row W G_16 32 #[.int .i64 0, .int .i64 0, .int .i64 0, .slice A_g 0 cap_g]) := ⟨_, rfl⟩
 have st6 : St S6 := by rw [hSd]; infer_instance
 have D6 : Hid (∀ W, S6 W → S5 W) := by show ∀ W, _; rw [hSd]; exact fun W h => h.1
 have F_g : Hid (∀ W, S6 W → Row W G_16 32 #[.int .i64 0, .int .i64 0, .int .i64 0, .slice A_g 0 cap_g]) := by show ∀ W, _; rw [hSd]; exact fun W h => h.2
 have HS6 : Hid (S6 w_18) := by show S6 w_18; rw [hSd]; exact ⟨hprev, rH⟩
 clear hSd
 clear hprev HS5 hG rG bG rH oH bH
 go_wp2_with (refine at_load 29 _ rfl ?_)
 refine Stop.to ?_
 refine wpList_holdN S6 3 HS6.out ?_
 simp only [List.take_succ_cons, List.take_zero, List.drop_succ_cons, List.drop_zero]
 (refine hold_load_at rfl 29 _ rfl (⟨G_12, 0, none⟩) rfl (outC 0 5) _ (fun W hW => out_cells (r := ⟨0, 5, 5, A_r, cap_r, []⟩) (F_r.out _ (D6.out _ hW))) Try.underlying29 rfl (by kernel_rfl) ?_; simp only [Act.put, List.setIfInBounds_toArray, List.set_cons_zero, List.set_cons_succ])
 (refine hold_value rfl ?_ (fun W hW => ?_) ?_; rotate_left; (focus (go_simp; exact rfl)); simp only [Act.put, List.setIfInBounds_toArray, List.set_cons_zero, List.set_cons_succ])
 refine hold_value rfl (.bool true) (fun W _ => run_exec_binop rfl _ (run_eqGuard_agg _ _ _ _ _ _ _ (by kernel_rfl)) (by exact (eql_outcome 0 5 0 5) W)) ?_
 simp only [Act.put, List.setIfInBounds_toArray, List.set_cons_zero, List.set_cons_succ]
 refine wpHold_nil fun W9 hW9 => ?_
 have HT6 := Lib.hid hW9
 clear HS6 hW9
 have HS6 := HT6
 clear HT6
 have r2 := (F_r.out _ (D6.out _ HS6.out)).cellv (i := 2) (v := .int .i64 5) rfl
 go_wp2_with (first | (refine wpList_load_rowG rfl 25 _ rfl G_6 rfl 25 (pW G_1 G_3).cells (0, 0) _ (F_P1.out _ (D4.out _ (D5.out _ (D6.out _ HS6.out)))) Try.underlying25 rfl (by kernel_rfl) ?_) | (refine at_slice _ _ _ rfl ?_))
 refine Stop.to ?_
 refine wpList_slice_gen rfl 22 1 _ rfl 3 (ints [4]).toArray (bs_run Try.underlying22 info_i (by decide) (by decide) (by kernel_rfl)) ?_
 intro G_19 w_20 hG rG bG
 have hprev := st6.go HS6.out (bG.mono hG)
 obtain ⟨S7, hSd⟩ : ∃ S : World → Prop, S = (fun W => S6 W ∧ Row W G_19 3 (ints [4]).toArray) := ⟨_, rfl⟩
 have st7 : St S7 := by rw [hSd]; infer_instance
 have D7 : Hid (∀ W, S7 W → S6 W) := by show ∀ W, _; rw [hSd]; exact fun W h => h.1
 have F_b0 : Hid (∀ W, S7 W → Row W G_19 3 (ints [4]).toArray) := by show ∀ W, _; rw [hSd]; exact fun W h => h.2
 have HS7 : Hid (S7 w_20) := by show S7 w_20; rw [hSd]; exact ⟨hprev, rG⟩
 clear hSd
 clear hprev HS6 hG rG bG
 clear r2
 go_wp2_with fail
 refine (dOut_any (pW G_1 G_3) (some ⟨G_19, 0, none⟩) 1 [4] 4 w_20 (by show 5 ≤ 1000; omega) (by decide) (F_ok1.out _ (D4.out _ (D5.out _ (D6.out _ (D7.out _ HS7.out))))) (rd_row (F_b0.out _ HS7.out)) (by simp [InI])).mono ?_
 rintro e w_21 ⟨rfl, bb⟩
 rw [runW4 (F_ok1.out _ (D4.out _ (D5.out _ (D6.out _ (D7.out _ HS7.out))))), show outV ⟨[4], [[]], 0, 4, [], some (4, 0)⟩ = .agg (outC 4 0).toArray from rfl]
 have hprev := st7.go HS7.out (bb)
 replace HS7 := Lib.hid hprev
 clear hprev bb
 go_wp2_with (refine at_build 29 _ rfl ?_)
 refine Stop.to ?_
 refine wpList_holdN S7 2 HS7.out ?_
 simp only [List.take_succ_cons, List.take_zero, List.drop_succ_cons, List.drop_zero]
 (refine hold_value rfl ?_ (fun W hW => ?_) ?_; rotate_left; (focus (go_simp; exact rfl)); simp only [Act.put, List.setIfInBounds_toArray, List.set_cons_zero, List.set_cons_succ])
 refine hold_value rfl (.bool true) (fun W _ => run_exec_binop rfl _ (run_eqGuard_agg _ _ _ _ _ _ _ (by kernel_rfl)) (by exact (eql_outcome 4 0 4 0) W)) ?_
 simp only [Act.put, List.setIfInBounds_toArray, List.set_cons_zero, List.set_cons_succ]
 refine wpHold_nil fun W9 hW9 => ?_
 have HT7 := Lib.hid hW9
 clear HS7 hW9
 have HS7 := HT7
 clear HT7
 go_wp2_with (refine wpList_load_rowG rfl 25 _ rfl G_6 rfl 25 (pW G_1 G_3).cells (0, 0) _ (F_P1.out _ (D4.out _ (D5.out _ (D6.out _ (D7.out _ HS7.out))))) Try.underlying25 rfl (by kernel_rfl) ?_)
 refine (dOut_any (pW G_1 G_3) none 0 [] 4 W9 (by show 5 ≤ 1000; omega) (by decide) (F_ok1.out _ (D4.out _ (D5.out _ (D6.out _ (D7.out _ HS7.out))))) (Rd.nil _ _) (by simp)).mono ?_
 rintro e w_22 ⟨rfl, bb⟩
 rw [runWn, show outV zeroS = .agg (outC 0 0).toArray from rfl]
 have hprev := st7.go HS7.out (bb)
 replace HS7 := Lib.hid hprev
 clear hprev bb
 go_wp2_with (refine at_build 29 _ rfl ?_)
 refine Stop.to ?_
 refine wpList_holdN S7 2 HS7.out ?_
 simp only [List.take_succ_cons, List.take_zero, List.drop_succ_cons, List.drop_zero]
 (refine hold_value rfl ?_ (fun W hW => ?_) ?_; rotate_left; (focus (go_simp; exact rfl)); simp only [Act.put, List.setIfInBounds_toArray, List.set_cons_zero, List.set_cons_succ])
 refine hold_value rfl (.bool true) (fun W _ => run_exec_binop rfl _ (run_eqGuard_agg _ _ _ _ _ _ _ (by kernel_rfl)) (by exact (eql_outcome 0 0 0 0) W)) ?_
 simp only [Act.put, List.setIfInBounds_toArray, List.set_cons_zero, List.set_cons_succ]
 refine wpHold_nil fun W9 hW9 => ?_
 have HT7 := Lib.hid hW9
 clear HS7 hW9
 have HS7 := HT7
 clear HT7
 go_wp2_with fail
 go_ret
 exact ⟨rfl, (F_low.out _ (D1.out _ (D2.out _ (D3.out _ (D4.out _ (D5.out _ (D6.out _ (D7.out _ HS7.out))))))))⟩
end Go.Proofs.Ytlglilmgklipdaa
namespace Go.Proofs.Ytlglilmgklipdaa
set_option linter.unusedVariables false
open Go.RowKit Go.Deep
set_option maxRecDepth 100000 in
set_option maxHeartbeats 4000000 in
theorem few17_any (p : PgV) (aa : Option Addr) (acap n : Nat) (fuel : Int) (w : World) : Calls Try.prog 22 #[.agg p.cells, .slice aa n acap, .int .i64 fuel] w fun e w' => e = .returned (.bool (fewZ p n fuel)) ∧ Below w.heap.size w w' := by
 go_enter Try.func22, Try.ntmps22
 go_wp2_with (refine at_box _ _ rfl ?_)
 refine Stop.to ?_
 refine wpList_box_gen rfl 25 _ rfl p.cells rfl ?_
 intro G w1 hG r1 b1
 have b1 := (Below.refl w.heap.size w).trans (b1.mono hG)
 clear hG
 have Hr1 := Lib.hid r1
 clear r1
 go_wp2_with (refine wpList_load_row rfl 25 _ rfl G rfl 25 p.cells (0, 0) _ Hr1.out Try.underlying25 rfl (by kernel_rfl) ?_)
 refine (few_any p w1).mono ?_
 rintro e w2 ⟨rfl, b2⟩
 have Hb2 := Lib.hid (b1.trans (b2.mono b1.size))
 generalize hq : fewP p = q
 have Hq := Lib.hid hq
 clear hq b1 b2 Hr1
 cases q
 · go_wp2_with fail
   go_ret
   exact ⟨ret_b (by unfold fewZ; rw [Hq.out]; simp; try omega), Hb2.out⟩
 by_cases h1 : n ≤ 40
 rotate_left
 · have h1' : ¬ (n : Int) ≤ 40 := by omega
   have h1'' : 40 < (n : Int) := by omega
   have H1 := Lib.hid h1
   clear h1
   go_wp2_with fail
   go_ret
   exact ⟨ret_b (by have h1 := H1.out; unfold fewZ; rw [Hq.out]; simp; intro; omega), Hb2.out⟩
 have h1' : (n : Int) ≤ 40 := by omega
 have H1 := Lib.hid h1
 clear h1
 by_cases h2 : fuel ≤ 400
 · go_wp2_with fail
   go_ret
   exact ⟨ret_b (by have h1 := H1.out; unfold fewZ; rw [Hq.out]; simp; omega), Hb2.out⟩
 have h2' : 400 < fuel := by omega
 by_cases h3 : 10000 < fuel
 · clear h2
   go_wp2_with fail
   go_ret
   exact ⟨ret_b (by have h1 := H1.out; unfold fewZ; rw [Hq.out]; simp; omega), Hb2.out⟩
 · have h3' : fuel ≤ 10000 := by omega
   have H2 := Lib.hid h2
   have H3 := Lib.hid h3
   clear h2 h3
   go_wp2_with fail
   go_ret
   exact ⟨ret_b (by have h1 := H1.out; have h2 := H2.out; have h3 := H3.out; unfold fewZ; rw [Hq.out]; simp; omega), Hb2.out⟩
end Go.Proofs.Ytlglilmgklipdaa
namespace Go.Proofs.Ytlglilmgklipdaa
set_option linter.unusedVariables false
open Go.ChangeShapes Go.WideShapes Go.RowKit Go.Deep
theorem cells_node : Try.prog.cellsOf 44 = 2 := by kernel_rfl
theorem cells_prog : Try.prog.cellsOf 25 = 3 := by kernel_rfl
theorem cells_ints : Try.prog.cellsOf 22 = 1 := by kernel_rfl
theorem cells_nodes : Try.prog.cellsOf 23 = 1 := by kernel_rfl
structure IntsV where
 addr : Option Addr
 cap : Nat
 l : List Int
def IntsV.val (r : IntsV) : Value := .slice r.addr r.l.length r.cap
structure IntsV.ok (r : IntsV) (w : World) : Prop where
 len : r.l.length ≤ r.cap
 cap : r.cap ≤ maxLen
 nil : r.addr = none → r.cap = 0
 reads : Rd w r.addr (ints r.l)
 all : ∀ x ∈ r.l, InI x
theorem IntsV.ok.go {r : IntsV} {w w' : World} (h : r.ok w) (b : Below w.heap.size w w') : r.ok w' := ⟨h.len, h.cap, h.nil, h.reads.go b, h.all⟩
instance St.intsok {r : IntsV} : St (fun W => r.ok W) := ⟨fun h b => h.go b⟩
def PgV.val (p : PgV) : Value := .agg p.cells
section
variable {H : Type} {enc : TypeId × Value → H} {w : World} {base : Nat} {spare : Nat → Bool} {held : Bool}
theorem open_int1 {fuel : Nat} {cs : List Value} {x : DataW H × List MemPlace} (h : DataW.trod enc Try.prog w base spare held fuel 3 cs = some x) : ∃ n : Int, cs = [.int .i64 n] ∧ InI n := by
 obtain ⟨n, e, h⟩ := trod_i64 Try.underlying3 h
 exact ⟨n, e, h⟩
set_option maxRecDepth 100000 in
theorem open_node {fuel : Nat} {cs : List Value} {x : DataW H × List MemPlace} (h : DataW.trod enc Try.prog w base spare held fuel 44 cs = some x) : ∃ e : Nd, cs = e.cells ∧ InI e.tag ∧ InI e.n := by
 obtain ⟨hl, n, hf⟩ := trod_field Try.underlying44 h
 have hl2 : cs.length = 2 := hl.trans cells_node
 match cs, hl2 with
 | [a, b], _ =>
  obtain ⟨_, h0⟩ := hf 0 _ rfl
  obtain ⟨_, h1⟩ := hf 1 _ rfl
  obtain ⟨n0, e0, w0⟩ := trod_i64 Try.underlying3 h0
  obtain ⟨n1, e1, w1⟩ := trod_i64 Try.underlying3 h1
  simp [cells_int] at e0 e1
  exact ⟨⟨n0, n1⟩, by rw [e0, e1]; rfl, w0, w1⟩
theorem ints_flat (l : List Int) : l.flatMap (fun n => [Value.int .i64 n]) = ints l := by
 induction l with
 | nil => rfl
 | cons a l ih => rw [List.flatMap_cons, ih]; rfl
set_option maxRecDepth 100000 in
theorem open_intsC {fuel : Nat} {cs : List Value} {x : DataW H × List MemPlace} (h : DataW.trod enc Try.prog w base spare held fuel 22 cs = some x) : ∃ r : IntsV, r.ok w ∧ cs = [r.val] := by
 obtain ⟨A, cap, xss, rfl, h1, h2, hA, h3, h4, h5⟩ := open_rows Try.underlying22 h
 obtain ⟨l, rfl, hok⟩ := rows_map (fun n : Int => [Value.int .i64 n]) InI xss (fun xs hxs => by obtain ⟨n, y, hy⟩ := h5 xs hxs; exact open_int1 hy)
 rw [List.length_map] at h1
 refine ⟨⟨A, cap, l⟩, ⟨h1, h2, hA, ?_, hok⟩, by rw [List.length_map]; rfl⟩
 rw [← List.flatMap_def, ints_flat] at h4
 exact h4
set_option maxRecDepth 100000 in
theorem open_nodesC {fuel : Nat} {cs : List Value} {x : DataW H × List MemPlace} (h : DataW.trod enc Try.prog w base spare held fuel 23 cs = some x) :
 ∃ (A : Option Addr) (cap : Nat) (l : List Nd), cs = [.slice A l.length cap] ∧ l.length ≤ cap ∧ cap ≤ maxLen ∧ (A = none → cap = 0) ∧ Rd w A (l.flatMap Nd.cells) ∧ ∀ e ∈ l, InI e.tag ∧ InI e.n := by
 obtain ⟨A, cap, xss, rfl, h1, h2, hA, h3, h4, h5⟩ := open_rows Try.underlying23 h
 obtain ⟨l, rfl, hok⟩ := rows_map Nd.cells (fun e => InI e.tag ∧ InI e.n) xss (fun xs hxs => by obtain ⟨n, y, hy⟩ := h5 xs hxs; exact open_node hy)
 rw [List.length_map] at h1
 exact ⟨A, cap, l, by rw [List.length_map], h1, h2, hA, by rw [List.flatMap_def]; exact h4, hok⟩
set_option maxRecDepth 100000 in
theorem open_progC {fuel : Nat} {cs : List Value} {x : DataW H × List MemPlace} (h : DataW.trod enc Try.prog w base spare held fuel 25 cs = some x) : ∃ p : PgV, p.ok w ∧ cs = p.cells.toList := by
 obtain ⟨hl, n, hf⟩ := trod_field Try.underlying25 h
 have hl3 : cs.length = 3 := hl.trans cells_prog
 match cs, hl3 with
 | [a, b, c], _ =>
  obtain ⟨_, h0⟩ := hf 0 _ rfl
  obtain ⟨_, h1⟩ := hf 1 _ rfl
  obtain ⟨_, h2⟩ := hf 2 _ rfl
  obtain ⟨n0, e0, w0⟩ := trod_i64 Try.underlying3 h0
  obtain ⟨r, hr, e1⟩ := open_intsC h1
  obtain ⟨A, cap, l, e2, g1, g2, g3, g4, g5⟩ := open_nodesC h2
  simp [cells_int, cells_ints, cells_nodes] at e0 e1 e2
  exact ⟨⟨n0, r.addr, r.cap, r.l, A, cap, l⟩, ⟨w0, hr.len, hr.cap, hr.nil, hr.reads, hr.all, g1, g2, g3, g4, g5⟩, by rw [e0, e1, e2]; rfl⟩
set_option maxRecDepth 100000 in
theorem open_ints {r : Go.Reach} {b0 : Nat} {v : Value} {d : DataW H} {p : List MemPlace} (hv : Value.okWide Try.prog w r b0 22 v) (h : DataW.Trod enc Try.prog w base spare held 22 v d p) : ∃ r : IntsV, r.ok w ∧ v = r.val := by
 obtain ⟨a, len, cap, rfl⟩ := okWide_slice Try.underlying22 hv
 obtain ⟨fuel, hx⟩ := h
 obtain ⟨r, hr, e⟩ := open_intsC hx
 have e2 : [Value.slice a len cap] = [r.val] := e
 injection e2 with e2
 exact ⟨r, hr, e2⟩
set_option maxRecDepth 100000 in
theorem open_prog {r : Go.Reach} {b0 : Nat} {v : Value} {d : DataW H} {p : List MemPlace} (hv : Value.okWide Try.prog w r b0 25 v) (h : DataW.Trod enc Try.prog w base spare held 25 v d p) : ∃ p : PgV, p.ok w ∧ v = p.val := by
 obtain ⟨cs, rfl, fuel, x, hx⟩ := trod_val Try.underlying25 hv h
 obtain ⟨p, hp, rfl⟩ := open_progC hx
 exact ⟨p, hp, rfl⟩
end
end Go.Proofs.Ytlglilmgklipdaa
namespace Go.Proofs.Ytlglilmgklipdaa
set_option linter.unusedVariables false
open Go.RowKit Go.Deep
def Ms.kind (s : Ms) : Int := (s.out.getD (0, 0)).1
end Go.Proofs.Ytlglilmgklipdaa
namespace Go.Proofs.Ytlglilmgklipdaa
set_option linter.unusedVariables false
open Go.RowKit Go.Deep
theorem late_tick {V args : List Int} {n : Nat} (h : 2 ≤ n) : (initS V args n).tick.tick.late 1 = (initS V args (n + 1)).tick.tick.tick := by
 unfold Ms.late Ms.tick initS
 simp only [Ms.mk.injEq, true_and, and_true]
 omega
theorem notT {V : List Int} {c : Tr} (h : ofT V c = 1) : ofT V (.node ⟨6, 0⟩ [c]) = 1 := by
 rw [ofT]
 simp [isZ, wantZ, okKids, inner, h]
theorem run_turned {p q : PgV} {args : List Int} {F : Int} {x1 : Nd} {c b1 b2 : Tr} {v : Int} {s' : Ms} (h : RunK p args F (.node ⟨20, 1⟩ [.node x1 [c, b1, b2]]) v s') (hc : checkZ p args.length F = 0) (hx : x1.tag = 23) (h2 : 2 ≤ F) (hF : F ≤ 9999)
 (hqp : q.params = p.params) (hqV : q.V = p.V) (hqb : q.body = ⟨20, 1⟩ :: x1 :: ⟨6, 0⟩ :: (c.flat ++ b2.flat ++ b1.flat)) :
 checkZ q args.length (F + 1) = 0 ∧ (runZ q args (F + 1)).out.getD (0, 0) = (runZ p args F).out.getD (0, 0) ∧ (runZ q args (F + 1)).evs = (runZ p args F).evs ∧ (runZ q args (F + 1)).steps = (runZ p args F).steps + 1 := by
 have hfits := h.good.hat.fits
 have hT : okO p.V (.node x1 [c, b1, b2]) := okO_kid h.okO (by simp)
 have hfT := hT.1
 obtain ⟨k, sh, hk⟩ := okO_shape hT
 obtain ⟨ha, hb, hcc, tb, tc⟩ : ofT p.V c = 1 ∧ ofT p.V b1 = 2 ∧ ofT p.V b2 = 2 ∧ b1.root.tag = 20 ∧ b2.root.tag = 20 := by
  cases sh <;> omega
 have fc := hfT.kid c (by simp [Tr.kids])
 have fb1 := hfT.kid b1 (by simp [Tr.kids])
 have fb2 := hfT.kid b2 (by simp [Tr.kids])
 have a1 : arityZ x1 = 3 := by have := hfT.arity; simpa [Tr.root, Tr.kids] using this
 have fN : Tr.fits (.node ⟨6, 0⟩ [c]) := .mk _ _ (by rfl) (by simpa using fc)
 have fT' : Tr.fits (.node x1 [.node ⟨6, 0⟩ [c], b2, b1]) := .mk _ _ (by rw [a1]; rfl) (by intro k hk; simp at hk; rcases hk with rfl | rfl | rfl; exact fN; exact fb2; exact fb1)
 have ft' : Tr.fits (.node ⟨20, 1⟩ [.node x1 [.node ⟨6, 0⟩ [c], b2, b1]]) := .mk _ _ (by rfl) (by intro k hk; simp at hk; subst hk; exact fT')
 have hfl : (Tr.node ⟨20, 1⟩ [.node x1 [.node ⟨6, 0⟩ [c], b2, b1]]).flat = q.body := by
  rw [hqb]; simp [Tr.flat, flats]
 have kT' : ofT p.V (.node x1 [.node ⟨6, 0⟩ [c], b2, b1]) = 2 := by
  rw [ofT]
  simp [isZ, wantZ, okKids, inner, hx, notT ha, hb, hcc, tb, tc]
 have hg : Good q (.node ⟨20, 1⟩ [.node x1 [.node ⟨6, 0⟩ [c], b2, b1]]) := by
  refine ⟨⟨ft', [], by rw [List.drop_zero, List.append_nil, hfl]⟩, by unfold Tr.size; rw [hfl], by rw [hqp, hqV]; exact h.good.vars, rfl, ?_⟩
  rw [hqV, ofT]
  simp [isZ, wantZ, okKids, inner, kT']
 have hcq : checkZ q args.length (F + 1) = 0 := by
  have e := checkZ_good (n := args.length) (fuel := F) h.good
  rw [hc] at e
  rw [checkZ_good hg, hqp]
  split at e
  · omega
  · rename_i hne
    rw [if_neg hne, if_neg (by omega)]
 obtain ⟨n, rfl⟩ : ∃ n : Nat, F = (n : Int) := ⟨F.toNat, by omega⟩
 have hn2 : 2 ≤ n := by omega
 have hbig := h.big
 have heq := h.eq
 rw [Int.toNat_natCast] at hbig
 have e1 : ((n : Int) + 1).toNat = n + 1 := by omega
 have g0 : (initS p.V args n).go := ⟨rfl, by show n ≠ 0; omega⟩
 have g1 : (initS p.V args n).tick.go := ⟨rfl, by show n - 1 ≠ 0; omega⟩
 have G0 : (initS p.V args (n + 1)).go := ⟨rfl, by show n + 1 ≠ 0; omega⟩
 have G1 : (initS p.V args (n + 1)).tick.go := ⟨rfl, by show n + 1 - 1 ≠ 0; omega⟩
 have G2 : (initS p.V args (n + 1)).tick.tick.go := ⟨rfl, by show n + 1 - 1 - 1 ≠ 0; omega⟩
 have hin := h.init
 rw [Int.toNat_natCast] at hin
 have fin : ∀ s2 : Ms, s' = s2 → (∃ u, Big (.one (.node x1 [.node ⟨6, 0⟩ [c], b2, b1])) (initS p.V args (n + 1)).tick u (s2.late 1)) →
  checkZ q args.length ((n : Int) + 1) = 0 ∧ (runZ q args ((n : Int) + 1)).out.getD (0, 0) = (runZ p args n).out.getD (0, 0) ∧ (runZ q args ((n : Int) + 1)).evs = (runZ p args n).evs ∧ (runZ q args ((n : Int) + 1)).steps = (runZ p args n).steps + 1 := by
  rintro s2 rfl ⟨u, hu⟩
  have hB := Big.block ⟨20, 1⟩ _ _ _ _ G0 rfl (.cons _ [] _ _ _ _ _ hu (.nil _))
  have hr := runZ_of hcq ⟨_, _, _, hg, by rw [hqV, e1]; exact hB, rfl⟩
  refine ⟨hcq, ?_⟩
  rw [hr, heq]
  unfold Ms.stopped
  show (if s'.out.isSome then s'.late 1 else _).out.getD _ = _ ∧ (if s'.out.isSome then s'.late 1 else _).evs = _ ∧ (if s'.out.isSome then s'.late 1 else _).steps = _
  split <;> exact ⟨rfl, rfl, Nat.add_comm _ _⟩
 clear hg hfl ft' fT' fN
 cases hbig with
 | over _ _ ho => cases ho
 | empty _ _ _ h0 => exact absurd h0 g0.2
 | cut _ _ _ _ _ _ _ hd => exact absurd hd (by unfold deep; simp)
 | ret _ _ _ _ _ _ hd => exact absurd hd (by simp)
 | neg _ _ _ _ _ _ hd => exact absurd hd (by simp)
 | not _ _ _ _ _ _ hd => exact absurd hd (by simp)
 | set _ _ _ _ _ _ hd => exact absurd hd (by simp)
 | at_ _ _ _ _ _ _ hd => exact absurd hd (by simp)
 | atNo _ _ _ _ _ _ hd => exact absurd hd (by simp)
 | block _ _ _ _ u hgo ht h1 =>
  cases h1 with
  | cons _ _ _ s1 _ v u hT1 hn =>
   cases hn
   cases hT1 with
   | over _ _ ho => cases ho
   | empty _ _ _ h0 => exact absurd h0 g1.2
   | block _ _ _ _ _ _ ht => exact absurd ht (by omega)
   | cut _ _ _ _ _ v hgo hd h1 ho =>
    refine fin _ rfl ⟨_, .cut x1 _ _ _ _ _ G1 (by unfold deep; omega) (.cut ⟨6, 0⟩ c [] _ _ v G2 (by unfold deep; simp) ?_ (by exact ho)) (by exact ho)⟩
    have := h1.late 1
    rw [late_tick hn2] at this
    exact this
   | ifs _ _ _ _ t _ s1 _ v u hgo ht h1 ho hv h2 =>
    have hv01 := (h1.inv (okO_kid hT (by simp) : okG _ (.one c)) (hin.tick.tick)).2.2 ho c rfl ha
    have h1' := h1.late 1
    rw [late_tick hn2] at h1'
    have hN := Big.not ⟨6, 0⟩ c _ _ v G2 rfl h1' ho
    refine fin _ rfl ⟨_, .ifs x1 _ b2 b1 t _ _ _ (1 - v) _ G1 hx hN ho ?_ (h2.late 1)⟩
    rcases hv01 with rfl | rfl
    · simpa using hv
    · simpa using hv
end Go.Proofs.Ytlglilmgklipdaa
namespace Go.Proofs.Ytlglilmgklipdaa
set_option linter.unusedVariables false
open Go.RowKit Go.Deep
structure TurnK (p : PgV) (args : List Int) (fuel : Int) (x1 : Nd) (c b1 b2 : Tr) : Prop where
 atc : At p.body 2 c
 at1 : At p.body (2 + c.size) b1
 at2 : At p.body (2 + c.size + b1.size) b2
 kids : kidsZ p.body 1 = [2, ((2 + c.size : Nat) : Int), ((2 + c.size + b1.size : Nat) : Int)]
 len : p.body.length = 2 + c.size + b1.size + b2.size
 law : ∀ q : PgV, q.params = p.params → q.V = p.V → q.body = ⟨20, 1⟩ :: x1 :: ⟨6, 0⟩ :: (c.flat ++ b2.flat ++ b1.flat) →
  checkZ q args.length (fuel + 1) = 0 ∧ (runZ q args (fuel + 1)).out.getD (0, 0) = (runZ p args fuel).out.getD (0, 0) ∧ (runZ q args (fuel + 1)).evs = (runZ p args fuel).evs ∧ (runZ q args (fuel + 1)).steps = (runZ p args fuel).steps + 1
theorem turn_law {p : PgV} {args : List Int} {fuel : Int} {w : World} {x1 : Nd} (hok : p.ok w) (hin : ∀ a ∈ args, InI a) (hc : checkZ p args.length fuel = 0) (h0 : p.body[0]? = some ⟨20, 1⟩) (h1 : p.body[1]? = some x1) (ht : x1.tag = 23) (h2 : 2 ≤ fuel) (hF : fuel ≤ 9999) :
 ∃ c b1 b2 : Tr, TurnK p args fuel x1 c b1 b2 := by
 obtain ⟨t, v, s', hk⟩ := runZ_is hok hin hc
 obtain ⟨y, ks⟩ := t
 have hat := hk.good.hat
 have e0 := hat.root
 rw [h0] at e0
 injection e0 with e0
 simp only [Tr.root] at e0
 subst e0
 have ha := hat.fits.arity
 simp only [Tr.root, Tr.kids] at ha
 have hks : ks.length = 1 := by
  have : arityZ ⟨20, 1⟩ = 1 := by decide
  omega
 obtain ⟨c1, rfl⟩ : ∃ c1, ks = [c1] := List.length_eq_one_iff.1 hks
 have hat1 := hat.kids.head
 have e1 := hat1.root
 rw [h1] at e1
 injection e1 with e1
 obtain ⟨y1, ks1⟩ := c1
 simp only [Tr.root] at e1
 subst e1
 have ha1 := hat1.fits.arity
 simp only [Tr.root, Tr.kids] at ha1
 have hk3 : ks1.length = 3 := by
  unfold arityZ limitsZ at ha1
  simp only [ht] at ha1
  simp at ha1
  split at ha1 <;> omega
 obtain ⟨c, b1, b2, rfl⟩ : ∃ c b1 b2, ks1 = [c, b1, b2] := by
  match ks1, hk3 with
  | [c, b1, b2], _ => exact ⟨c, b1, b2, rfl⟩
 have hs := hat1.kids
 have hkz := hat1.kidsZ
 refine ⟨c, b1, b2, hs.head, hs.tail.head, hs.tail.tail.head, ?_, ?_, fun q q1 q2 q3 => run_turned hk hc ht h2 hF q1 q2 q3⟩
 · have : ((0 : Nat) + 1 : Nat) = 1 := rfl
   simpa [spots, Tr.kids] using hkz
 · have h3 := hk.good.size
   simp [Tr.size, Tr.flat, flats] at h3 ⊢
   omega
end Go.Proofs.Ytlglilmgklipdaa
namespace Go.Proofs.Ytlglilmgklipdaa
set_option linter.unusedVariables false
open Go.RowKit Go.Deep
end Go.Proofs.Ytlglilmgklipdaa
namespace Go.Proofs.Ytlglilmgklipdaa
set_option linter.unusedVariables false
open Go.RowKit Go.Deep
theorem own_emptyS {W' : World} {B g size : Nat} {e : TypeId} (hB : B ≤ g) (h : Row W' g e #[]) : W'.ownsRow B e size (.slice (some ⟨g, 0, none⟩) 0 0) 0 [] :=
 ⟨by simp, .inr ⟨g, 0, #[], rfl, hB, h, Nat.le_refl _, Nat.zero_le _, by simp, by simp⟩⟩
theorem run_exec_append {P : Program} {o : Oper} {w w1 : World} {ρ : Operand → Value} {s x : Operand} {t : TypeId} (ho : o.op = .call { callee := .builtin .append, args := #[s, x], argTypes := #[t, t] }) {v : Value} (hv : (Builtin.append_ #[t, t] o.type #[ρ s, ρ x]).run P w = .ok v w1) : (execOp ρ o).run P w = .ok (.value v) w1 := by
 unfold execOp
 simp only [ho, resolve, invoke, builtin, Sem.run_bind, Sem.run_pure, Result.andThen_ok, List.map_toArray, List.map_cons, List.map_nil, hv]
theorem run_append_nil {P : Program} {w : World} {base size n c : Nat} {t ty e : TypeId} {i : TypeInfo} {v : Value} {xs : List Value} (ht : P.underlying t = some (.slice e)) (hi : P.info? e = some i) (hown : w.ownsRow base e size v n xs) : (Builtin.append_ #[t, t] ty #[v, .slice none 0 c]).run P w = .ok v w := by
 rcases hown.2 with ⟨rfl, rfl⟩ | ⟨g, cap, cur, rfl, _, _, hnc, _⟩
 · simp [Builtin.append_, run_underlying ht, sizeOf, typeInfo, hi, Builtin.lenOf, Builtin.firstCells]
 · simp [Builtin.append_, run_underlying ht, sizeOf, typeInfo, hi, Builtin.lenOf, Builtin.firstCells, hnc, storeCells]
theorem append_rd {P : Program} (t e : TypeId) (z : Value) (size bytes : Nat) (ht : P.underlying t = some (.slice e)) (hinf : (P.info? e).map (fun i => (i.zero, i.size, i.bytes)) = some (some z, size, bytes)) (hzs : z.cells.size = size) (hsz : 0 < size) (hby : bytes ≤ 100)
 {W : World} {B n m cap : Nat} {v : Value} {xs cs : List Value} {A : Option Addr} (hown : W.ownsRow B e size v n xs) (hB : B ≤ W.heap.size) (hr : Rd W A cs) (hlen : cs.length = m * size) (h1 : ∀ u ∈ cs, u.oneCell' = true) (hA : A = none → m = 0) (hb : n + m ≤ 1000000) :
 ∃ v' W', (Builtin.append_ #[t, t] t #[v, .slice A m cap]).run P W = .ok v' W' ∧ W'.ownsRow B e size v' (n + m) (xs ++ cs) ∧ W.grownBy W' v.ownBlock ∧ (v'.ownBlock = v.ownBlock ∨ v'.ownBlock = some W.heap.size) := by
 obtain ⟨i0, hi0, hz0, hz1, hz2⟩ := info_parts hinf
 rcases A with _ | ad
 · have h0 := hA rfl
   subst h0
   have hl : cs = [] := List.eq_nil_of_length_eq_zero (by simpa using hlen)
   subst hl
   exact ⟨v, W, run_append_nil ht hi0 hown, by simpa using hown, World.grownBy.refl _ _, .inl rfl⟩
 · obtain ⟨v', W', h1, h2, h3, _, h5⟩ := run_append_own_at (P := P) W B t t e i0 z size bytes ht hi0 hz0 hz1 hz2 hzs hsz v n xs hown ad m cap cs hlen
    (fun j u hj => by obtain ⟨ad', e, hc⟩ := hr j u hj; injection e with e; subst e; exact hc) h1 (by unfold maxLen; omega) (by have := Nat.mul_le_mul hb hby; omega) hB
   exact ⟨v', W', h1, h2, h3, h5⟩
end Go.Proofs.Ytlglilmgklipdaa
namespace Go.Proofs.Ytlglilmgklipdaa
set_option linter.unusedVariables false
open Go.RowKit Go.Deep
theorem info_nd : (Try.prog.info? 44).map (fun i => (i.zero, i.size, i.bytes)) = some (some (.agg #[.int .i64 0, .int .i64 0]), 2, 16) := by kernel_rfl
theorem at_stopC {ops : Array Oper} {rest : List Oper} {o : Oper} {a : Act} {w : World} {Q : Exit → Act → World → Prop} (h : Stop (wpList Try.prog ops Q (o :: rest) a w) id) : wpList Try.prog ops Q (o :: rest) a w := h.out
theorem wpList_res {P : Program} {ops : Array Oper} {rest : List Oper} {o : Oper} {a : Act} {w w1 : World} {Q : Exit → Act → World → Prop} (hgd : o.guard = none) (v : Value) (hv : (execOp a.eval o).run P w = .ok (.value v) w1) (h : wpList P ops Q rest (a.put o.dst v) w1) : wpList P ops Q (o :: rest) a w :=
 wpList_plain hgd fun _ hK => by unfold Oper.wp; rw [hv]; exact hK _ _ h
theorem run_exec_append2 {P : Program} {o : Oper} {w w1 : World} {ρ : Operand → Value} {s x : Operand} {t u : TypeId} (ho : o.op = .call { callee := .builtin .append, args := #[s, x], argTypes := #[t, u] }) {v : Value} (hv : (Builtin.append_ #[t, u] o.type #[ρ s, ρ x]).run P w = .ok v w1) : (execOp ρ o).run P w = .ok (.value v) w1 := by
 unfold execOp
 simp only [ho, resolve, invoke, builtin, Sem.run_bind, Sem.run_pure, Result.andThen_ok, List.map_toArray, List.map_cons, List.map_nil, hv]
set_option maxRecDepth 100000 in
set_option maxHeartbeats 2000000 in
theorem growN_any (n : Nat) (hn : n ≤ 1000000) (w : World) : Calls Try.prog 104 #[.slice none 0 0, .int .i64 (n : Int)] w fun e w' => ∃ A cap, e = .returned (.slice A 0 cap) ∧ w'.ownsRow w.heap.size 44 2 (.slice A 0 cap) 0 [] ∧ Below w.heap.size w w' := by
 have h1 : ¬ ((n : Int) < 0) := by omega
 have h2 : wrap64 ((0 : Int) - 0) = 0 := by unfold wrap64; omega
 have h3 : wrap64 ((n : Int) - 0) = (n : Int) := by unfold wrap64; omega
 have h4 : IntKind.i64.wrap (n : Int) = (n : Int) := IntWalk.i64_in _ (by omega)
 by_cases h0 : n = 0
 · subst h0
   go_enter Try.func104, Try.ntmps104
   go_wp2
   go_ret
   exact ⟨_, _, rfl, World.ownsRow_nil _ _ _ _, Below.refl _ _⟩
 · have hp : (0 : Int) < (n : Int) := by omega
   obtain ⟨i0, hi0, hz0, hz1, hz2⟩ := info_parts info_nd
   have hold : (Builtin.firstCells i0.size 0 (.slice none 0 0)).run Try.prog w.drew = .ok ([] : List Value).toArray w.drew := run_firstCells_none w.drew i0.size 0 0 0
   have hrz := fun ty => Lib.run_append_grow_zeros (P := Try.prog) w 23 3 ty 44 i0 _ .i64 .i64 Try.underlying23 Try.underlying3 hi0 hz0 none 0 0 [] hold n (by omega) (by rw [hz1]; omega) (by omega) (by omega) (by rw [hz2]; omega) (growslice_fits (by omega) (by rw [hz2]; omega))
   simp only [Nat.zero_add] at hrz
   have hG1 := grownCap_ge w n 0 44
   have hG2 := grownCap_le_maxLen w n 0 44 (by unfold maxLen; omega)
   generalize grownCap w n 0 44 = G at hrz hG1 hG2
   have hcs : ((([] : List Value).toArray ++ Builtin.zeroCells (Value.agg #[.int .i64 0, .int .i64 0]).cells n ++ Builtin.zeroCells (Value.agg #[.int .i64 0, .int .i64 0]).cells (G - n)) : Array Value).size = G * 2 := by
    simp only [Array.size_append, size_zeroCells]
    show 0 + n * 2 + (G - n) * 2 = G * 2
    omega
   generalize (([] : List Value).toArray ++ Builtin.zeroCells (Value.agg #[.int .i64 0, .int .i64 0]).cells n ++ Builtin.zeroCells (Value.agg #[.int .i64 0, .int .i64 0]).cells (G - n)) = cs at hrz hcs
   have Hrz := Lib.hid hrz
   have hG3 : G ≤ 9223372036854775807 := by unfold maxLen at hG2; omega
   clear hrz hi0 hz0 hz1 hz2 hold h0
   go_enter Try.func104, Try.ntmps104
   go_wp2_with (at_builtin; refine at_stopC ?_)
   refine Stop.to ?_
   refine wpList_res rfl _ (run_exec_append2 rfl (Hrz.out _)) ?_
   have rn : Row (w.drew.alloc (.cells cs 44)) w.heap.size 44 cs := Row.new w.drew _ _
   have bn : Below w.heap.size w (w.drew.alloc (.cells cs 44)) := (⟨rfl, rfl, rfl, Nat.le_refl _, fun _ _ => rfl⟩ : Below w.heap.size w w.drew).trans ((Below.refl _ w.drew).alloc (Nat.le_refl _) _)
   generalize w.drew.alloc (.cells cs 44) = w1 at rn bn ⊢
   clear Hrz
   go_wp2
   go_ret
   exact ⟨_, _, rfl, ⟨by simp, .inr ⟨w.heap.size, G, cs, rfl, Nat.le_refl _, rn, Nat.zero_le _, hG2, hcs, by simp⟩⟩, bn⟩
structure PtV where
 addr : Option Addr
 cap : Nat
 body : List Nd
def PtV.val (q : PtV) : Value := .slice q.addr q.body.length q.cap
def PtV.rd (q : PtV) (w : World) : Prop := Rd w q.addr (q.body.flatMap Nd.cells) ∧ (q.addr = none → q.body = [])
def partsL (ps : List PtV) : List Nd := ps.flatMap PtV.body
theorem PtV.rd.go {q : PtV} {w w' : World} (h : q.rd w) (b : Below w.heap.size w w') : q.rd w' := ⟨h.1.go b, h.2⟩
theorem ndc_len (l : List Nd) : (l.flatMap Nd.cells).length = l.length * 2 := by
 induction l with
 | nil => rfl
 | cons a l ih => simp only [List.flatMap_cons, List.length_append, ih, List.length_cons]; simp [Nd.cells]; omega
theorem ndc_one (l : List Nd) : ∀ u ∈ l.flatMap Nd.cells, u.oneCell' = true := by
 intro u hu
 simp only [List.mem_flatMap, Nd.cells, List.mem_cons, List.not_mem_nil, or_false] at hu
 obtain ⟨a, _, rfl | rfl⟩ := hu <;> rfl
theorem append_nds {W : World} {B n m cap : Nat} {v : Value} {xs : List Value} {A : Option Addr} {l : List Nd} (hown : W.ownsRow B 44 2 v n xs) (hB : B ≤ W.heap.size) (hr : Rd W A (l.flatMap Nd.cells)) (hm : m = l.length) (hA : A = none → m = 0) (hb : n + m ≤ 1000000) :
 ∃ v' W', (Builtin.append_ #[23, 23] 23 #[v, .slice A m cap]).run Try.prog W = .ok v' W' ∧ W'.ownsRow B 44 2 v' (n + m) (xs ++ l.flatMap Nd.cells) ∧ W.grownBy W' v.ownBlock ∧ (v'.ownBlock = v.ownBlock ∨ v'.ownBlock = some W.heap.size) :=
 append_rd 23 44 _ 2 16 Try.underlying23 info_nd rfl (by decide) (by decide) hown hB hr (by rw [ndc_len, hm]) (ndc_one l) hA hb
theorem own_sl {w : World} {base n size : Nat} {e : TypeId} {v : Value} {xs : List Value} (h : w.ownsRow base e size v n xs) : ∃ A cap, v = .slice A n cap := by
 rcases h.2 with ⟨rfl, h0⟩ | ⟨g, cap, cur, rfl, _⟩
 · subst h0; exact ⟨_, _, rfl⟩
 · exact ⟨_, _, rfl⟩
theorem partsL_succ {ps : List PtV} {k : Nat} {q : PtV} (h : ps[k]? = some q) : partsL (ps.take (k + 1)) = partsL (ps.take k) ++ q.body := by
 unfold partsL
 rw [List.take_add_one, h]
 simp
theorem partsL_le (ps : List PtV) (k : Nat) : (partsL (ps.take k)).length ≤ (partsL ps).length := by
 have : partsL ps = partsL (ps.take k) ++ partsL (ps.drop k) := by
  unfold partsL
  rw [← List.flatMap_append, List.take_append_drop]
 rw [this]; simp
set_option maxRecDepth 100000 in
set_option maxHeartbeats 4000000 in
theorem concat_any (A : Option Addr) (m cp : Nat) (ps : List PtV) (w : World) (hm : m = ps.length) (hr : Rd w A (ps.map PtV.val)) (hps : ∀ q ∈ ps, q.rd w) (hl : (partsL ps).length ≤ 1000000) (hml : m ≤ 1000) :
 Calls Try.prog 66 #[.slice A m cp] w fun e w' => ∃ v, e = .returned v ∧ w'.ownsRow w.heap.size 44 2 v (partsL ps).length ((partsL ps).flatMap Nd.cells) ∧ Below w.heap.size w w' := by
 have Hr := Lib.hid hr
 have Hps := Lib.hid hps
 have Hm := Lib.hid hm
 have hl' := hl
 clear hr hps hm
 go_enter Try.func66, Try.ntmps66
 go_wp2
 go_loopw [3, 11] (fun s i wr => ∃ k : Nat, i = .int .i64 (k : Int) ∧ s = .int .i64 ((partsL (ps.take k)).length : Int) ∧ k ≤ m ∧ w = wr) (fun _ i _ => m - (intOf i).toNat)
 case atStart => exact ⟨0, rfl, by simp [partsL], Nat.zero_le _, rfl⟩
 case round =>
  obtain ⟨k, rfl, rfl, hk, rfl⟩ := hrel
  by_cases hlt : k < m
  · obtain ⟨q, hq⟩ : ∃ q, ps[k]? = some q := ⟨_, List.getElem?_eq_getElem (by have := Hm.out; omega)⟩
    obtain ⟨ad, rfl, hc⟩ := Hr.out k q.val (by simp [hq])
    have hkI : (k : Int) < (m : Int) := by omega
    have hs := partsL_succ hq
    have hle := partsL_le ps (k + 1)
    rw [hs, List.length_append] at hle
    have e1 : IntKind.i64.wrap (((partsL (ps.take k)).length : Int) + (q.body.length : Int)) = ((partsL (ps.take k)).length : Int) + (q.body.length : Int) := IntWalk.i64_in _ (by omega)
    have e2 : ¬ (((partsL (ps.take k)).length : Int) + (q.body.length : Int) < 0) := by omega
    have ewk : IntKind.i64.wrap ((k : Int) + 1) = (k : Int) + 1 := IntWalk.i64_in _ (by omega)
    have Hs : Hid ((((partsL (ps.take k)).length : Int) + (q.body.length : Int)) = ((partsL (ps.take (k + 1))).length : Int)) := by show _ = _; rw [hs, List.length_append]; omega
    unfold PtV.val at hc
    clear hs hle hq
    generalize (partsL (ps.take k)).length = sk at *
    go_wp2
    go_roundw
    case rel => exact ⟨k + 1, by go_num, by rw [← Hs.out], by omega, by trivial⟩
    case measure => simp [intOf]; omega
  · obtain rfl : k = m := by omega
    have ht : ps.take k = ps := by rw [Hm.out]; exact List.take_length
    rw [ht]
    obtain ⟨n, hn⟩ : ∃ n, n = (partsL ps).length := ⟨_, rfl⟩
    have Hn := Lib.hid hn
    rw [← hn] at hl ⊢
    clear hlt hk ht hn hl'
    go_wp2_with fail
    refine (growN_any n hl w).mono ?_
    rintro e w1 ⟨A1, c1, rfl, hown, b1⟩
    have Hown := Lib.hid hown
    have Hb1 := Lib.hid b1
    clear hown b1
    go_wp2
    go_loopw [6, 27] (fun s i W => ∃ (k' : Nat) (v : Value), s = v ∧ i = .int .i64 (k' : Int) ∧ k' ≤ k ∧ Hid (W.ownsRow w.heap.size 44 2 v (partsL (ps.take k')).length ((partsL (ps.take k')).flatMap Nd.cells)) ∧ Hid (Below w.heap.size w W)) (fun _ i _ => k - (intOf i).toNat)
    case atStart => exact ⟨0, _, rfl, rfl, Nat.zero_le _, by simpa [partsL] using Hown, Hb1⟩
    case round =>
     clear Hown Hb1
     obtain ⟨j, v, rfl, rfl, hj, Hown, Hb⟩ := hrel
     by_cases hlt : j < k
     · obtain ⟨q, hq⟩ : ∃ q, ps[j]? = some q := ⟨_, List.getElem?_eq_getElem (by have := Hm.out; omega)⟩
       obtain ⟨ad, rfl, hc⟩ := (Hr.out.go Hb.out) j q.val (by simp [hq])
       have hqr := (Hps.out q (List.mem_of_getElem? hq)).go Hb.out
       have hjI : (j : Int) < (k : Int) := by omega
       have hs := partsL_succ hq
       have hle := partsL_le ps (j + 1)
       rw [hs, List.length_append, ← Hn.out] at hle
       have ewj : IntKind.i64.wrap ((j : Int) + 1) = (j : Int) + 1 := IntWalk.i64_in _ (by omega)
       obtain ⟨v2, W2, hrun, hown2, hgr, _⟩ := append_nds (cap := q.cap) Hown.out Hb.out.size hqr.1 (rfl : q.body.length = q.body.length) (fun h => by rw [hqr.2 h]; rfl) (by omega)
       have b2 := below_grown_own (Below.refl w.heap.size _) Hown.out hgr Hb.out.size (Nat.le_refl _)
       have Hown2 : Hid (W2.ownsRow w.heap.size 44 2 v2 (partsL (ps.take (j + 1))).length ((partsL (ps.take (j + 1))).flatMap Nd.cells)) := by
        show W2.ownsRow _ _ _ _ _ _
        rw [hs, List.length_append, List.flatMap_append]; exact hown2
       have Hb2 := Lib.hid (Hb.out.trans b2)
       have Hrun := Lib.hid hrun
       obtain ⟨A2, c2, rfl⟩ := own_sl hown2
       obtain ⟨A3, c3, rfl⟩ := own_sl Hown.out
       unfold PtV.val at hc
       clear hs hle hq hrun hown2 hgr b2 hqr Hown Hb
       go_wp2_with (at_builtin; refine at_stopC ?_)
       refine Stop.to ?_
       refine wpList_res rfl _ (run_exec_append rfl Hrun.out) ?_
       clear Hrun hc
       go_wp2
       go_roundw
       case rel => exact ⟨j + 1, _, rfl, by go_num, by omega, Hown2, Hb2⟩
       case measure => simp [intOf]; omega
     · obtain rfl : j = k := by omega
       have ht : ps.take j = ps := by rw [Hm.out]; exact List.take_length
       rw [ht] at Hown
       obtain ⟨A3, c3, rfl⟩ := own_sl Hown.out
       clear hlt hj ht
       go_wp2
       go_ret
       exact ⟨_, rfl, Hown.out, Hb.out⟩
end Go.Proofs.Ytlglilmgklipdaa
