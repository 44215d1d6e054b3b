/- machine.Run with its load. Conditions: stated in each theorem. -/
import Derived.Test.YtlglilmgklipdaaMcK
import Derived.Test.YtlglilmgklipdaaMcL
namespace Go.Proofs.Ytlglilmgklipdaa
set_option linter.unusedVariables false
open Go.RowKit Go.Deep

theorem checkZ_zero {p : PgV} {n : Nat} {fuel : Int} (h : checkZ p n fuel = 0) : ∃ t, Good p t ∧ (n : Int) = p.params ∧ 0 ≤ fuel ∧ fuel ≤ 10000 := by
  by_cases hg : ∃ t, Good p t
  · obtain ⟨t, ht⟩ := hg
    rw [checkZ_good ht] at h
    refine ⟨t, ht, ?_⟩
    split at h
    · cases h
    · split at h
      · cases h
      · omega
  · rw [checkZ_no (fun t ht => hg ⟨t, ht⟩)] at h; cases h
theorem mRun_all (p : PgV) (t : Tr) (aa : Option Addr) (acap : Nat) (args : List Int) (fuel : Int) (fin : Mm) (w : World) (hbl : p.body.length ≤ 1000) (hn : args.length ≤ 1000) (hok : p.ok w) (hra : Rd w aa (ints args)) (hg : Good p t)
    (hc : checkZ p args.length fuel = 0) (hfin : Reach (enterM 0 t ⟨initS p.V args fuel.toNat, []⟩) fin) (ho : fin.s.out.isSome = true) :
    Calls Try.prog 15 #[.agg p.cells, .slice aa args.length acap, .int .i64 fuel] w fun e w' => RunR fin w w' e := by
  obtain ⟨_, _, h1, h2⟩ := checkZ_zero hc
  exact mRun_any p t aa acap args fuel fin w hbl hn hok hg hc (fun w' hok' b => mLoad_any p aa acap args fuel w' hbl hn hok' hg.vars h1 h2 (hra.go b)) hfin ho
set_option maxRecDepth 100000 in
set_option maxHeartbeats 8000000 in
/-- A program that may not be run. -/
theorem mRunBad_any (p : PgV) (aa : Option Addr) (acap n : Nat) (fuel : Int) (w : World) (hbl : p.body.length ≤ 1000) (hn : n ≤ 1000) (hok : p.ok w) (hc : checkZ p n fuel ≠ 0) :
    Calls Try.prog 15 #[.agg p.cells, .slice aa n acap, .int .i64 fuel] w fun e w' => e = .returned (.tuple #[.agg #[.int .i64 0, .int .i64 0, .int .i64 0, .slice none 0 0], .int .i64 (checkZ p n fuel)]) ∧ Below w.heap.size w w' := by
  have Hok := Lib.hid hok
  have Hbl := Lib.hid hbl
  have Hn := Lib.hid hn
  obtain ⟨cz, hcz⟩ : ∃ cz, checkZ p n fuel = cz := ⟨_, rfl⟩
  have Hcz := Lib.hid hcz
  rw [hcz] at hc ⊢
  have ec : (cz == 0) = false := by simpa using hc
  clear hok hbl hn hcz hc
  go_enter Try.func15, Try.ntmps15
  go_wp2_with (refine at_box _ _ rfl ?_)
  refine Stop.to ?_
  refine wpList_box_gen rfl 25 _ rfl p.cells rfl ?_
  intro G w1 hG r1 b1
  replace b1 := (Below.refl w.heap.size w).trans (b1.mono hG)
  clear hG
  go_wp2_with (refine at_alloc _ rfl ?_)
  refine Stop.to ?_
  refine wpList_alloc_gen rfl 32 rfl _ _ zero_run2 rfl ?_
  intro RB w2 hRB rB b2
  replace r1 := r1.below (b2.mono hRB) r1.lt
  have hRBw : w.heap.size ≤ RB := Nat.le_trans b1.size hRB
  replace b2 := b1.trans ((b2.mono hRB).mono b1.size)
  have R1 := Lib.hid r1
  have RB2 := Lib.hid rB
  have B2 := Lib.hid b2
  clear r1 b1 b2 rB hRB
  go_wp2_with fail
  refine wp_scope_straight ?_
  go_wp2_with (refine wpList_load_row rfl 25 _ rfl G rfl 25 p.cells (0, 0) _ R1.out Try.underlying25 rfl (by kernel_rfl) ?_)
  refine (mCheck_any p aa acap n fuel Hbl.out Hn.out w2 (Hok.out.go B2.out)).mono ?_
  rintro e w3 ⟨rfl, b3⟩
  rw [Hcz.out]
  have RB3 := Lib.hid (RB2.out.below b3 RB2.out.lt)
  have B3 := Lib.hid (B2.out.trans (b3.mono B2.out.size))
  clear b3 R1 RB2 B2
  go_wp2_with (refine at_store _ _ _ rfl ?_)
  refine Stop.to ?_
  refine wpList_store_gen rfl 32 _ _ rfl RB #[.int .i64 0, .int .i64 0, .int .i64 0, .slice none 0 0] rfl rfl 32 _ RB3.out (by kernel_rfl) rfl (run_one 0 0 0 rfl) ?_
  intro W9 r9 o9
  go_wp2_with fail
  rw [Exit.noGoto_ret]
  refine bodyPost_ret (results_cell_tmp Try.results15 _ _ RB 32 _ (0, 0) _ rfl r9 Try.underlying32 rfl (by kernel_rfl)) rfl ?_
  exact ⟨rfl, below_only B3.out o9 hRBw⟩
end Go.Proofs.Ytlglilmgklipdaa
