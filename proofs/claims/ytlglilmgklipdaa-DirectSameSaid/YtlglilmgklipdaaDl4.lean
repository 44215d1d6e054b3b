/- The walk over the law DirectSame. Conditions: stated in the theorem. -/
import Derived.Test.YtlglilmgklipdaaWk17
import Derived.Test.YtlglilmgklipdaaFw17
import Derived.Test.YtlglilmgklipdaaOpP
import Derived.Test.YtlglilmgklipdaaMlC
namespace Go.Proofs.Ytlglilmgklipdaa
set_option linter.unusedVariables false
open Go.RowKit Go.Deep

set_option maxRecDepth 100000 in
set_option maxHeartbeats 16000000 in
theorem directSame_walk (p : PgV) (g : IntsV) (fuel : Int) (hfI : -9223372036854775808 ≤ fuel ∧ fuel ≤ 9223372036854775807) (w : World) (hok : p.ok w) (hg : g.ok w) : Calls Try.prog 11 #[p.val, g.val, .int .i64 fuel] w fun e w' => e = .returned (.bool true) ∧ Below w.heap.size w w' := by
  obtain ⟨aa, acap, args⟩ := g
  rw [show p.val = .agg p.cells from rfl, show (IntsV.mk aa acap args).val = .slice aa args.length acap from rfl]
  have Hin : Hid (∀ a ∈ args, InI a) := hg.all
  have hrd0 : Rd w aa (ints args) := hg.reads
  go_enter Try.func11, Try.ntmps11
  obtain ⟨S0, hSd⟩ : ∃ S : World → Prop, S = (fun W => Below w.heap.size w W ∧ p.ok W ∧ Rd W aa (ints args)) := ⟨_, rfl⟩
  have st0 : St S0 := by rw [hSd]; infer_instance
  have F_low : Hid (∀ W, S0 W → Below w.heap.size w W) := by show ∀ W, _; rw [hSd]; exact fun W h => h.1
  have F_ok : Hid (∀ W, S0 W → p.ok W) := by show ∀ W, _; rw [hSd]; exact fun W h => h.2.1
  have F_rda : Hid (∀ W, S0 W → Rd W aa (ints args)) := by show ∀ W, _; rw [hSd]; exact fun W h => h.2.2
  have HS0 : Hid (S0 w) := by show S0 w; rw [hSd]; exact ⟨Below.refl _ _, hok, hrd0⟩
  clear hSd
  clear hok hg hrd0
  go_wp2_with (refine at_box _ _ rfl ?_)
  refine Stop.to ?_
  refine wpList_box_gen rfl 25 _ rfl p.cells rfl ?_
  intro G_1 w_2 hG rG bG
  have hprev := st0.go HS0.out (bG.mono hG)
  obtain ⟨S1, hSd⟩ : ∃ S : World → Prop, S = (fun W => S0 W ∧ Row W G_1 25 p.cells) := ⟨_, rfl⟩
  have st1 : St S1 := by rw [hSd]; infer_instance
  have D1 : Hid (∀ W, S1 W → S0 W) := by show ∀ W, _; rw [hSd]; exact fun W h => h.1
  have F_P : Hid (∀ W, S1 W → Row W G_1 25 p.cells) := by show ∀ W, _; rw [hSd]; exact fun W h => h.2
  have HS1 : Hid (S1 w_2) := by show S1 w_2; rw [hSd]; exact ⟨hprev, rG⟩
  clear hSd
  clear hprev HS0 hG rG bG
  go_wp2_with fail
  refine (works17_any w_2).mono ?_
  rintro e w_3 ⟨rfl, bb⟩
  have hprev := st1.go HS1.out (bb)
  replace HS1 := Lib.hid hprev
  clear hprev bb
  go_wp2_with (refine wpList_load_row rfl 25 _ rfl G_1 rfl 25 p.cells (0, 0) _ (F_P.out _ HS1.out) Try.underlying25 rfl (by kernel_rfl) ?_)
  refine (few17_any p aa acap args.length fuel w_3).mono ?_
  rintro e w_4 ⟨rfl, bb⟩
  have hprev := st1.go HS1.out (bb)
  replace HS1 := Lib.hid hprev
  clear hprev bb
  generalize hq : fewZ p args.length fuel = q
  have Hq := Lib.hid hq
  clear hq
  cases q
  · skip
    go_wp2_with fail
    go_ret
    exact ⟨rfl, (F_low.out _ (D1.out _ HS1.out))⟩
  have hfz := fewZ_of Hq.out
  have Hbl := Lib.hid hfz.1
  have Hal := Lib.hid hfz.2.1
  have Hfu := Lib.hid hfz.2.2
  clear hfz Hq
  go_wp2_with (refine wpList_load_row rfl 25 _ rfl G_1 rfl 25 p.cells (0, 0) _ (F_P.out _ HS1.out) Try.underlying25 rfl (by kernel_rfl) ?_)
  refine (dRunA p aa acap args fuel w_4 (by have := Hbl.out; omega) (by have := Hal.out; omega) (F_ok.out _ (D1.out _ HS1.out)) (F_rda.out _ (D1.out _ HS1.out)) Hin.out).mono ?_
  rintro e w_5 ⟨A_a, c_a, rfl, hrd, hle_a, hmx_a, hni_a, bb⟩
  have hprev := st1.go HS1.out (bb)
  obtain ⟨S2, hSd⟩ : ∃ S : World → Prop, S = (fun W => S1 W ∧ Rd3 ((runZ p args fuel).rv A_a c_a) W) := ⟨_, rfl⟩
  have st2 : St S2 := by rw [hSd]; infer_instance
  have D2 : Hid (∀ W, S2 W → S1 W) := by show ∀ W, _; rw [hSd]; exact fun W h => h.1
  have F_rd_a : Hid (∀ W, S2 W → Rd3 ((runZ p args fuel).rv A_a c_a) W) := by show ∀ W, _; rw [hSd]; exact fun W h => h.2
  have HS2 : Hid (S2 w_5) := by show S2 w_5; rw [hSd]; exact ⟨hprev, hrd⟩
  clear hSd
  clear hprev HS1 bb hrd
  go_wp2_with (refine at_alloc _ rfl ?_)
  refine Stop.to ?_
  refine wpList_alloc_gen rfl 32 rfl _ _ zero_run2 rfl ?_
  intro G_6 w_7 hG rG bG
  go_wp2_with (refine at_store _ _ _ rfl ?_)
  refine Stop.to ?_
  refine wpList_store_gen rfl 32 _ _ rfl G_6 ((runZ p args fuel).rv A_a c_a).cells rfl rfl 32 _ rG (by kernel_rfl) rfl (rv_one _) ?_
  intro w_8 rH oH
  have bH : Below (w_5).heap.size w_5 w_8 := (bG.mono hG).trans (oH.below hG)
  have hprev := st2.go HS2.out (bH)
  obtain ⟨S3, hSd⟩ : ∃ S : World → Prop, S = (fun W => S2 W ∧ Row W G_6 32 ((runZ p args fuel).rv A_a c_a).cells) := ⟨_, rfl⟩
  have st3 : St S3 := by rw [hSd]; infer_instance
  have D3 : Hid (∀ W, S3 W → S2 W) := by show ∀ W, _; rw [hSd]; exact fun W h => h.1
  have F_a : Hid (∀ W, S3 W → Row W G_6 32 ((runZ p args fuel).rv A_a c_a).cells) := by show ∀ W, _; rw [hSd]; exact fun W h => h.2
  have HS3 : Hid (S3 w_8) := by show S3 w_8; rw [hSd]; exact ⟨hprev, rH⟩
  clear hSd
  clear hprev HS2 hG rG bG rH oH bH
  go_wp2_with (refine wpList_load_row rfl 25 _ rfl G_1 rfl 25 p.cells (0, 0) _ (F_P.out _ (D2.out _ (D3.out _ HS3.out))) Try.underlying25 rfl (by kernel_rfl) ?_)
  refine (mRunA p aa acap args fuel w_8 (by have := Hbl.out; omega) (by have := Hal.out; omega) (F_ok.out _ (D1.out _ (D2.out _ (D3.out _ HS3.out)))) (F_rda.out _ (D1.out _ (D2.out _ (D3.out _ HS3.out)))) Hin.out).mono ?_
  rintro e w_9 ⟨A_b, c_b, rfl, hrd, hle_b, hmx_b, hni_b, bb⟩
  have hprev := st3.go HS3.out (bb)
  obtain ⟨S4, hSd⟩ : ∃ S : World → Prop, S = (fun W => S3 W ∧ Rd3 ((runZ p args fuel).rv A_b c_b) W) := ⟨_, rfl⟩
  have st4 : St S4 := by rw [hSd]; infer_instance
  have D4 : Hid (∀ W, S4 W → S3 W) := by show ∀ W, _; rw [hSd]; exact fun W h => h.1
  have F_rd_b : Hid (∀ W, S4 W → Rd3 ((runZ p args fuel).rv A_b c_b) W) := by show ∀ W, _; rw [hSd]; exact fun W h => h.2
  have HS4 : Hid (S4 w_9) := by show S4 w_9; rw [hSd]; exact ⟨hprev, hrd⟩
  clear hSd
  clear hprev HS3 bb hrd
  go_wp2_with (refine at_alloc _ rfl ?_)
  refine Stop.to ?_
  refine wpList_alloc_gen rfl 32 rfl _ _ zero_run2 rfl ?_
  intro G_10 w_11 hG rG bG
  go_wp2_with (refine at_store _ _ _ rfl ?_)
  refine Stop.to ?_
  refine wpList_store_gen rfl 32 _ _ rfl G_10 ((runZ p args fuel).rv A_b c_b).cells rfl rfl 32 _ rG (by kernel_rfl) rfl (rv_one _) ?_
  intro w_12 rH oH
  have bH : Below (w_9).heap.size w_9 w_12 := (bG.mono hG).trans (oH.below hG)
  have hprev := st4.go HS4.out (bH)
  obtain ⟨S5, hSd⟩ : ∃ S : World → Prop, S = (fun W => S4 W ∧ Row W G_10 32 ((runZ p args fuel).rv A_b c_b).cells) := ⟨_, rfl⟩
  have st5 : St S5 := by rw [hSd]; infer_instance
  have D5 : Hid (∀ W, S5 W → S4 W) := by show ∀ W, _; rw [hSd]; exact fun W h => h.1
  have F_b : Hid (∀ W, S5 W → Row W G_10 32 ((runZ p args fuel).rv A_b c_b).cells) := by show ∀ W, _; rw [hSd]; exact fun W h => h.2
  have HS5 : Hid (S5 w_12) := by show S5 w_12; rw [hSd]; exact ⟨hprev, rH⟩
  clear hSd
  clear hprev HS4 hG rG bG rH oH bH
  go_wp2_with (first | (refine wpList_load_row rfl 32 _ rfl G_6 rfl 32 ((runZ p args fuel).rv A_a c_a).cells (0, 0) _ (F_a.out _ (D4.out _ (D5.out _ HS5.out))) Try.underlying32 rfl (by kernel_rfl) ?_) | (refine wpList_load_row rfl 32 _ rfl G_10 rfl 32 ((runZ p args fuel).rv A_b c_b).cells (0, 0) _ (F_b.out _ HS5.out) Try.underlying32 rfl (by kernel_rfl) ?_))
  refine (refSame_any ((runZ p args fuel).rv A_a c_a) ((runZ p args fuel).rv A_b c_b) w_12 (F_rd_a.out _ (D3.out _ (D4.out _ (D5.out _ HS5.out)))) (F_rd_b.out _ (D5.out _ HS5.out)) (run_few _ _ _)).mono ?_
  rintro e w_13 ⟨β, hβ, rfl, bb⟩
  obtain rfl : β = true := hβ.2 rfl
  rw [sameB_rv]
  have hprev := st5.go HS5.out (bb)
  replace HS5 := Lib.hid hprev
  clear hprev bb hβ
  generalize checkZ p args.length fuel = cz
  go_wp2_with fail
  go_ret
  exact ⟨rfl, (F_low.out _ (D1.out _ (D2.out _ (D3.out _ (D4.out _ (D5.out _ HS5.out))))))⟩
end Go.Proofs.Ytlglilmgklipdaa
