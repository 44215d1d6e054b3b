/- The direct walker's Run and Out, whatever they are given; the document's Out. Conditions: stated in each theorem. -/
import Derived.Test.YtlglilmgklipdaaDrU
import Derived.Test.YtlglilmgklipdaaMlB
namespace Go.Proofs.Ytlglilmgklipdaa
set_option linter.unusedVariables false
open Go.RowKit Go.Deep

set_option maxRecDepth 100000 in
set_option maxHeartbeats 8000000 in
/-- A program that may not be run. -/
theorem dRunBad_any (p : PgV) (aa : Option Addr) (acap n : Nat) (fuel : Int) (w : World) (hbl : p.body.length ≤ 1000) (hn : n ≤ 1000) (hok : p.ok w) (hc : checkZ p n fuel ≠ 0) :
    Calls Try.prog 23 #[.agg p.cells, .slice aa n acap, .int .i64 fuel] w fun e w' => e = .returned (.tuple #[.agg #[.int .i64 0, .int .i64 0, .int .i64 0, .slice none 0 0], .int .i64 (checkZ p n fuel)]) ∧ Below w.heap.size w w' := by
  have Hok := Lib.hid hok
  have Hbl := Lib.hid hbl
  have Hn := Lib.hid hn
  obtain ⟨cz, hcz⟩ : ∃ cz, checkZ p n fuel = cz := ⟨_, rfl⟩
  have Hcz := Lib.hid hcz
  rw [hcz] at hc ⊢
  have ec : (cz == 0) = false := by simpa using hc
  clear hok hbl hn hcz hc
  go_enter Try.func23, Try.ntmps23
  go_wp2_with (refine at_box _ _ rfl ?_)
  refine Stop.to ?_
  refine wpList_box_gen rfl 25 _ rfl p.cells rfl ?_
  intro G w1 hG r1 b1
  replace b1 := (Below.refl w.heap.size w).trans (b1.mono hG)
  clear hG
  go_wp2_with (refine at_alloc _ rfl ?_)
  refine Stop.to ?_
  refine wpList_alloc_gen rfl 32 rfl _ _ zero_run2 rfl ?_
  intro RB w2 hRB rB b2
  replace r1 := r1.below (b2.mono hRB) r1.lt
  have hRBw : w.heap.size ≤ RB := Nat.le_trans b1.size hRB
  replace b2 := b1.trans ((b2.mono hRB).mono b1.size)
  have R1 := Lib.hid r1
  have RB2 := Lib.hid rB
  have B2 := Lib.hid b2
  clear r1 b1 b2 rB hRB
  go_wp2_with (refine wpList_load_row rfl 25 _ rfl G rfl 25 p.cells (0, 0) _ R1.out Try.underlying25 rfl (by kernel_rfl) ?_)
  refine (mCheck_any p aa acap n fuel Hbl.out Hn.out w2 (Hok.out.go B2.out)).mono ?_
  rintro e w3 ⟨rfl, b3⟩
  rw [Hcz.out]
  have RB3 := Lib.hid (RB2.out.below b3 RB2.out.lt)
  have B3 := Lib.hid (B2.out.trans (b3.mono B2.out.size))
  clear b3 R1 RB2 B2
  go_wp2_with (refine at_store _ _ _ rfl ?_)
  refine Stop.to ?_
  refine wpList_store_gen rfl 32 _ _ rfl RB #[.int .i64 0, .int .i64 0, .int .i64 0, .slice none 0 0] rfl rfl 32 _ RB3.out (by kernel_rfl) rfl (run_one 0 0 0 rfl) ?_
  intro W9 r9 o9
  go_wp2_with fail
  refine bodyPost_ret (results_cell_tmp Try.results23 _ _ RB 32 _ (0, 0) _ rfl r9 Try.underlying32 rfl (by kernel_rfl)) rfl ?_
  exact ⟨rfl, below_only B3.out o9 hRBw⟩
/-- direct.Run, whatever it is given. -/
theorem dRunA (p : PgV) (aa : Option Addr) (acap : Nat) (args : List Int) (fuel : Int) (w : World) (hbl : p.body.length ≤ 1000) (hn : args.length ≤ 1000) (hok : p.ok w) (hra : Rd w aa (ints args)) (hin : ∀ a ∈ args, InI a) :
    Calls Try.prog 23 #[.agg p.cells, .slice aa args.length acap, .int .i64 fuel] w fun e w' => RunA (runZ p args fuel) (checkZ p args.length fuel) w w' e := by
  by_cases hc : checkZ p args.length fuel = 0
  · obtain ⟨t, v, s', hk⟩ := runZ_is hok hin hc
    refine (dRun_any p t aa acap args fuel v s' w hbl hn hok hra hin hk.good hk.okO hk.init hc hk.big).mono fun e w' h => ?_
    rw [hk.eq, hc]
    exact h.a
  · exact (dRunBad_any p aa acap args.length fuel w hbl hn hok hc).mono fun e w' h => .bad hc h
def outV (s : Ms) : Value := .agg #[.int .i64 (s.out.getD (0, 0)).1, .int .i64 (s.out.getD (0, 0)).2]
set_option maxRecDepth 100000 in
set_option maxHeartbeats 8000000 in
/-- The document's Out. -/
theorem rOut_any (p : PgV) (aa : Option Addr) (acap : Nat) (args : List Int) (fuel : Int) (w : World) (hbl : p.body.length ≤ 1000) (hn : args.length ≤ 1000) (hok : p.ok w) (hra : Rd w aa (ints args)) (hin : ∀ a ∈ args, InI a) :
    Calls Try.prog 25 #[.agg p.cells, .slice aa args.length acap, .int .i64 fuel] w fun e w' => e = .returned (outV (runZ p args fuel)) ∧ Below w.heap.size w w' := by
  have Hok := Lib.hid hok
  have Hbl := Lib.hid hbl
  have Hn := Lib.hid hn
  have Hra := Lib.hid hra
  have Hin := Lib.hid hin
  clear hok hbl hn hra hin
  go_enter Try.func25, Try.ntmps25
  go_wp2_with (refine at_box _ _ rfl ?_)
  refine Stop.to ?_
  refine wpList_box_gen rfl 25 _ rfl p.cells rfl ?_
  intro G w1 hG r1 b1
  replace b1 := (Below.refl w.heap.size w).trans (b1.mono hG)
  clear hG
  go_wp2_with (refine at_alloc _ rfl ?_)
  refine Stop.to ?_
  refine wpList_alloc_gen rfl 29 rfl _ _ zero_outc rfl ?_
  intro RB w2 hRB rB b2
  replace r1 := r1.below (b2.mono hRB) r1.lt
  have hRBw : w.heap.size ≤ RB := Nat.le_trans b1.size hRB
  replace b2 := b1.trans ((b2.mono hRB).mono b1.size)
  have R1 := Lib.hid r1
  have RB2 := Lib.hid rB
  have B2 := Lib.hid b2
  clear r1 b1 b2 rB hRB
  go_wp2_with (refine wpList_load_row rfl 25 _ rfl G rfl 25 p.cells (0, 0) _ R1.out Try.underlying25 rfl (by kernel_rfl) ?_)
  refine (rRunA p aa acap args fuel w2 Hbl.out Hn.out (Hok.out.go B2.out) (Hra.out.go B2.out) Hin.out).mono ?_
  rintro e w3 ⟨A, cap, rfl, _, _, _, _, b3⟩
  obtain ⟨s, hs⟩ : ∃ s, runZ p args fuel = s := ⟨_, rfl⟩
  have Hs := Lib.hid hs
  rw [hs]
  have RB3 := Lib.hid (RB2.out.below b3 RB2.out.lt)
  have B3 := Lib.hid (B2.out.trans (b3.mono B2.out.size))
  clear b3 R1 RB2 B2 hs
  go_wp2_with (refine at_alloc _ rfl ?_)
  refine Stop.to ?_
  refine wpList_alloc_gen rfl 32 rfl _ _ zero_run2 rfl ?_
  intro T w4 hT rT b4
  have RB4 := Lib.hid (RB3.out.below (b4.mono hT) RB3.out.lt)
  have B4 := Lib.hid (B3.out.trans ((b4.mono hT).mono B3.out.size))
  have hTR : RB < T := Nat.lt_of_lt_of_le RB3.out.lt hT
  have hTw : w.heap.size ≤ T := by omega
  clear RB3 B3 b4 hT
  go_wp2_with (refine at_store _ _ _ rfl ?_)
  refine Stop.to ?_
  refine wpList_store_gen rfl 32 _ _ rfl T #[.int .i64 (s.out.getD (0, 0)).1, .int .i64 (s.out.getD (0, 0)).2, .int .i64 (s.steps : Int), .slice A s.evs.length cap] rfl rfl 32 _ rT (by kernel_rfl) rfl (run_one _ _ _ rfl) ?_
  intro w5 r5 o5
  have RB5 := Lib.hid (RB4.out.only o5 (by omega))
  have B5 := Lib.hid (below_only B4.out o5 hTw)
  have R5 := Lib.hid r5
  clear RB4 B4 r5 o5 rT
  go_wp2_with (first
    | (refine wpList_load_at rfl 29 _ rfl ⟨T, 0, none⟩ rfl [.int .i64 (s.out.getD (0, 0)).1, .int .i64 (s.out.getD (0, 0)).2] _ (R5.out.from_ 0 (fun j v hj => by match j, hj with | 0, hj => injection hj with hj; subst hj; rfl | 1, hj => injection hj with hj; subst hj; rfl | j + 2, hj => cases hj)) Try.underlying29 rfl (by kernel_rfl) ?_)
    | (refine at_store _ _ _ rfl ?_))
  refine Stop.to ?_
  refine wpList_store_gen rfl 29 _ _ rfl RB #[.int .i64 (s.out.getD (0, 0)).1, .int .i64 (s.out.getD (0, 0)).2] rfl rfl 29 _ RB5.out (by kernel_rfl) rfl (by simp [Value.oneCell']) ?_
  intro W9 r9 o9
  go_wp2_with fail
  refine bodyPost_ret (results_cell_row Try.results25 _ _ RB 29 _ (0, 0) _ rfl r9 Try.underlying29 rfl (by kernel_rfl)) rfl ?_
  exact ⟨by rw [Hs.out]; rfl, below_only B5.out o9 hRBw⟩
set_option maxRecDepth 100000 in
set_option maxHeartbeats 8000000 in
/-- direct.Out. -/
theorem dOut_any (p : PgV) (aa : Option Addr) (acap : Nat) (args : List Int) (fuel : Int) (w : World) (hbl : p.body.length ≤ 1000) (hn : args.length ≤ 1000) (hok : p.ok w) (hra : Rd w aa (ints args)) (hin : ∀ a ∈ args, InI a) :
    Calls Try.prog 24 #[.agg p.cells, .slice aa args.length acap, .int .i64 fuel] w fun e w' => e = .returned (outV (runZ p args fuel)) ∧ Below w.heap.size w w' := by
  by_cases hc : checkZ p args.length fuel = 0
  · have ec : (checkZ p args.length fuel == 0) = true := by simpa using hc
    have Hc := Lib.hid hc
    clear hc ec
    have Hok := Lib.hid hok
    have Hbl := Lib.hid hbl
    have Hn := Lib.hid hn
    have Hra := Lib.hid hra
    have Hin := Lib.hid hin
    clear hok hbl hn hra hin
    go_enter Try.func24, Try.ntmps24
    go_wp2_with (refine at_box _ _ rfl ?_)
    refine Stop.to ?_
    refine wpList_box_gen rfl 25 _ rfl p.cells rfl ?_
    intro G w1 hG r1 b1
    replace b1 := (Below.refl w.heap.size w).trans (b1.mono hG)
    clear hG
    go_wp2_with (refine at_alloc _ rfl ?_)
    refine Stop.to ?_
    refine wpList_alloc_gen rfl 29 rfl _ _ zero_outc rfl ?_
    intro RB w2 hRB rB b2
    replace r1 := r1.below (b2.mono hRB) r1.lt
    have hRBw : w.heap.size ≤ RB := Nat.le_trans b1.size hRB
    replace b2 := b1.trans ((b2.mono hRB).mono b1.size)
    have R1 := Lib.hid r1
    have RB2 := Lib.hid rB
    have B2 := Lib.hid b2
    clear r1 b1 b2 rB hRB
    go_wp2_with (refine wpList_load_row rfl 25 _ rfl G rfl 25 p.cells (0, 0) _ R1.out Try.underlying25 rfl (by kernel_rfl) ?_)
    refine (dRunA p aa acap args fuel w2 Hbl.out Hn.out (Hok.out.go B2.out) (Hra.out.go B2.out) Hin.out).mono ?_
    rintro e w3 ⟨A, cap, rfl, _, _, _, _, b3⟩
    obtain ⟨s, hs⟩ : ∃ s, runZ p args fuel = s := ⟨_, rfl⟩
    have Hs := Lib.hid hs
    rw [hs]
    have RB3 := Lib.hid (RB2.out.below b3 RB2.out.lt)
    have B3 := Lib.hid (B2.out.trans (b3.mono B2.out.size))
    clear b3 R1 RB2 B2 hs
    go_wp2_with (refine at_alloc _ rfl ?_)
    refine Stop.to ?_
    refine wpList_alloc_gen rfl 32 rfl _ _ zero_run2 rfl ?_
    intro T w4 hT rT b4
    have RB4 := Lib.hid (RB3.out.below (b4.mono hT) RB3.out.lt)
    have B4 := Lib.hid (B3.out.trans ((b4.mono hT).mono B3.out.size))
    have hTR : RB < T := Nat.lt_of_lt_of_le RB3.out.lt hT
    have hTw : w.heap.size ≤ T := by omega
    clear RB3 B3 b4 hT
    go_wp2_with (refine at_store _ _ _ rfl ?_)
    refine Stop.to ?_
    refine wpList_store_gen rfl 32 _ _ rfl T #[.int .i64 (s.out.getD (0, 0)).1, .int .i64 (s.out.getD (0, 0)).2, .int .i64 (s.steps : Int), .slice A s.evs.length cap] rfl rfl 32 _ rT (by kernel_rfl) rfl (run_one _ _ _ rfl) ?_
    intro w5 r5 o5
    have RB5 := Lib.hid (RB4.out.only o5 (by omega))
    have B5 := Lib.hid (below_only B4.out o5 hTw)
    have R5 := Lib.hid r5
    clear RB4 B4 r5 o5 rT
    rw [Hc.out]
    go_wp2_with (first
      | (refine wpList_load_at rfl 29 _ rfl ⟨T, 0, none⟩ rfl [.int .i64 (s.out.getD (0, 0)).1, .int .i64 (s.out.getD (0, 0)).2] _ (R5.out.from_ 0 (fun j v hj => by match j, hj with | 0, hj => injection hj with hj; subst hj; rfl | 1, hj => injection hj with hj; subst hj; rfl | j + 2, hj => cases hj)) Try.underlying29 rfl (by kernel_rfl) ?_)
      | (refine at_store _ _ _ rfl ?_))
    refine Stop.to ?_
    refine wpList_store_gen rfl 29 _ _ rfl RB #[.int .i64 (s.out.getD (0, 0)).1, .int .i64 (s.out.getD (0, 0)).2] rfl rfl 29 _ RB5.out (by kernel_rfl) rfl (by simp [Value.oneCell']) ?_
    intro W9 r9 o9
    go_wp2_with fail
    refine bodyPost_ret (results_cell_row Try.results24 _ _ RB 29 _ (0, 0) _ rfl r9 Try.underlying29 rfl (by kernel_rfl)) rfl ?_
    exact ⟨by rw [Hs.out]; rfl, below_only B5.out o9 hRBw⟩
  · have ec : (checkZ p args.length fuel == 0) = false := by simpa using hc
    have Hz := Lib.hid (runZ_no hc)
    clear hc
    have Hok := Lib.hid hok
    have Hbl := Lib.hid hbl
    have Hn := Lib.hid hn
    have Hra := Lib.hid hra
    have Hin := Lib.hid hin
    clear hok hbl hn hra hin
    go_enter Try.func24, Try.ntmps24
    go_wp2_with (refine at_box _ _ rfl ?_)
    refine Stop.to ?_
    refine wpList_box_gen rfl 25 _ rfl p.cells rfl ?_
    intro G w1 hG r1 b1
    replace b1 := (Below.refl w.heap.size w).trans (b1.mono hG)
    clear hG
    go_wp2_with (refine at_alloc _ rfl ?_)
    refine Stop.to ?_
    refine wpList_alloc_gen rfl 29 rfl _ _ zero_outc rfl ?_
    intro RB w2 hRB rB b2
    replace r1 := r1.below (b2.mono hRB) r1.lt
    have hRBw : w.heap.size ≤ RB := Nat.le_trans b1.size hRB
    replace b2 := b1.trans ((b2.mono hRB).mono b1.size)
    have R1 := Lib.hid r1
    have RB2 := Lib.hid rB
    have B2 := Lib.hid b2
    clear r1 b1 b2 rB hRB
    go_wp2_with (refine wpList_load_row rfl 25 _ rfl G rfl 25 p.cells (0, 0) _ R1.out Try.underlying25 rfl (by kernel_rfl) ?_)
    refine (dRunA p aa acap args fuel w2 Hbl.out Hn.out (Hok.out.go B2.out) (Hra.out.go B2.out) Hin.out).mono ?_
    rintro e w3 ⟨A, cap, rfl, _, _, _, _, b3⟩
    obtain ⟨s, hs⟩ : ∃ s, runZ p args fuel = s := ⟨_, rfl⟩
    have Hs := Lib.hid hs
    rw [hs]
    have RB3 := Lib.hid (RB2.out.below b3 RB2.out.lt)
    have B3 := Lib.hid (B2.out.trans (b3.mono B2.out.size))
    clear b3 R1 RB2 B2 hs
    go_wp2_with (refine at_alloc _ rfl ?_)
    refine Stop.to ?_
    refine wpList_alloc_gen rfl 32 rfl _ _ zero_run2 rfl ?_
    intro T w4 hT rT b4
    have RB4 := Lib.hid (RB3.out.below (b4.mono hT) RB3.out.lt)
    have B4 := Lib.hid (B3.out.trans ((b4.mono hT).mono B3.out.size))
    have hTR : RB < T := Nat.lt_of_lt_of_le RB3.out.lt hT
    have hTw : w.heap.size ≤ T := by omega
    clear RB3 B3 b4 hT
    go_wp2_with (refine at_store _ _ _ rfl ?_)
    refine Stop.to ?_
    refine wpList_store_gen rfl 32 _ _ rfl T #[.int .i64 (s.out.getD (0, 0)).1, .int .i64 (s.out.getD (0, 0)).2, .int .i64 (s.steps : Int), .slice A s.evs.length cap] rfl rfl 32 _ rT (by kernel_rfl) rfl (run_one _ _ _ rfl) ?_
    intro w5 r5 o5
    have RB5 := Lib.hid (RB4.out.only o5 (by omega))
    have B5 := Lib.hid (below_only B4.out o5 hTw)
    have R5 := Lib.hid r5
    clear RB4 B4 r5 o5 rT
    go_wp2_with (refine at_store _ _ _ rfl ?_)
    refine Stop.to ?_
    refine wpList_store_gen rfl 29 _ _ rfl RB #[.int .i64 0, .int .i64 0] rfl rfl 29 _ RB5.out (by kernel_rfl) rfl (by simp [Value.oneCell']) ?_
    intro W9 r9 o9
    go_wp2_with fail
    refine bodyPost_ret (results_cell_row Try.results24 _ _ RB 29 _ (0, 0) _ rfl r9 Try.underlying29 rfl (by kernel_rfl)) rfl ?_
    exact ⟨by rw [Hz.out]; rfl, below_only B5.out o9 hRBw⟩
end Go.Proofs.Ytlglilmgklipdaa
