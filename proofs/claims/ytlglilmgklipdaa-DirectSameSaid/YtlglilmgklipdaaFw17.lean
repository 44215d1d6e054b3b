/- What is looked at: the law's few. Conditions: stated in the theorem. -/
import Derived.Test.YtlglilmgklipdaaMlB
namespace Go.Proofs.Ytlglilmgklipdaa
set_option linter.unusedVariables false
open Go.RowKit Go.Deep

set_option maxRecDepth 100000 in
set_option maxHeartbeats 4000000 in
theorem few17_any (p : PgV) (aa : Option Addr) (acap n : Nat) (fuel : Int) (w : World) : Calls Try.prog 22 #[.agg p.cells, .slice aa n acap, .int .i64 fuel] w fun e w' => e = .returned (.bool (fewZ p n fuel)) ∧ Below w.heap.size w w' := by
  go_enter Try.func22, Try.ntmps22
  go_wp2_with (refine at_box _ _ rfl ?_)
  refine Stop.to ?_
  refine wpList_box_gen rfl 25 _ rfl p.cells rfl ?_
  intro G w1 hG r1 b1
  have b1 := (Below.refl w.heap.size w).trans (b1.mono hG)
  clear hG
  have Hr1 := Lib.hid r1
  clear r1
  go_wp2_with (refine wpList_load_row rfl 25 _ rfl G rfl 25 p.cells (0, 0) _ Hr1.out Try.underlying25 rfl (by kernel_rfl) ?_)
  refine (few_any p w1).mono ?_
  rintro e w2 ⟨rfl, b2⟩
  have Hb2 := Lib.hid (b1.trans (b2.mono b1.size))
  generalize hq : fewP p = q
  have Hq := Lib.hid hq
  clear hq b1 b2 Hr1
  cases q
  · go_wp2_with fail
    go_ret
    exact ⟨ret_b (by unfold fewZ; rw [Hq.out]; simp; try omega), Hb2.out⟩
  by_cases h1 : n ≤ 40
  rotate_left
  · have h1' : ¬ (n : Int) ≤ 40 := by omega
    have h1'' : 40 < (n : Int) := by omega
    have H1 := Lib.hid h1
    clear h1
    go_wp2_with fail
    go_ret
    exact ⟨ret_b (by have h1 := H1.out; unfold fewZ; rw [Hq.out]; simp; intro; omega), Hb2.out⟩
  have h1' : (n : Int) ≤ 40 := by omega
  have H1 := Lib.hid h1
  clear h1
  by_cases h2 : fuel ≤ 400
  · go_wp2_with fail
    go_ret
    exact ⟨ret_b (by have h1 := H1.out; unfold fewZ; rw [Hq.out]; simp; omega), Hb2.out⟩
  have h2' : 400 < fuel := by omega
  by_cases h3 : 10000 < fuel
  · clear h2
    go_wp2_with fail
    go_ret
    exact ⟨ret_b (by have h1 := H1.out; unfold fewZ; rw [Hq.out]; simp; omega), Hb2.out⟩
  · have h3' : fuel ≤ 10000 := by omega
    have H2 := Lib.hid h2
    have H3 := Lib.hid h3
    clear h2 h3
    go_wp2_with fail
    go_ret
    exact ⟨ret_b (by have h1 := H1.out; have h2 := H2.out; have h3 := H3.out; unfold fewZ; rw [Hq.out]; simp; omega), Hb2.out⟩
end Go.Proofs.Ytlglilmgklipdaa
