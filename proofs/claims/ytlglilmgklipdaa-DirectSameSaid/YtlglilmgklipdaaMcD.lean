/- The walks over the machine's pairs: a map of functions of two numbers. Conditions: stated in each theorem. -/
import Derived.Test.YtlglilmgklipdaaMcC
import Derived.Test.YtlglilmgklipdaaMapI
namespace Go.Proofs.Ytlglilmgklipdaa
set_option linter.unusedVariables false
open Go.RowKit Go.Deep

theorem truth_any (b : Bool) (w : World) : Calls Try.prog 81 #[.bool b] w fun e w' => e = .returned (.int .i64 (tr b)) ∧ w = w' := by
  cases b
  all_goals
    go_enter Try.func81, Try.ntmps81
    go_wp2
    go_ret
    exact ⟨rfl, rfl⟩
set_option maxHeartbeats 2000000 in
theorem pairF_any (tag a b c : Int) (f : Nat) (w : World) (hf : assoc tag pairsL = some (fnV f)) (hp : pairT tag a b = some c) : Calls Try.prog f #[.int .i64 a, .int .i64 b] w fun e w' => e = .returned (.int .i64 c) ∧ w = w' := by
  have key : tag = 7 ∨ tag = 8 ∨ tag = 9 ∨ tag = 12 ∨ tag = 13 ∨ tag = 14 ∨ tag = 15 ∨ tag = 16 ∨ tag = 17 ∨ tag = 10 ∨ tag = 11 := by
    unfold pairsL at hf
    simp only [assoc] at hf
    repeat' split at hf
    all_goals (first | (cases hf; done) | omega)
  rcases key with rfl | rfl | rfl | rfl | rfl | rfl | rfl | rfl | rfl | rfl | rfl
  all_goals
    have hf' := hf
    simp [pairsL, assoc, fnV] at hf'
    subst hf'
    clear hf
  · have hc : wrap64 (a + b) = c := by simpa [pairT] using hp
    subst hc; clear hp
    go_enter Try.func77, Try.ntmps77
    go_wp2
    go_ret
    exact ⟨ret_i rfl, rfl⟩
  · have hc : wrap64 (a - b) = c := by simpa [pairT] using hp
    subst hc; clear hp
    go_enter Try.func78, Try.ntmps78
    go_wp2
    go_ret
    exact ⟨ret_i rfl, rfl⟩
  · have hc : wrap64 (a * b) = c := by simpa [pairT] using hp
    subst hc; clear hp
    go_enter Try.func79, Try.ntmps79
    go_wp2
    go_ret
    exact ⟨ret_i rfl, rfl⟩
  · have hc : tr (decide (a = b)) = c := by simpa [pairT] using hp
    clear hp
    go_enter Try.func80, Try.ntmps80
    go_wp2_with fail
    refine (truth_any _ _).mono ?_
    rintro e w' ⟨rfl, rfl⟩
    go_wp2
    go_ret
    exact ⟨ret_i (by rw [← hc]; all_goals (first | (congr 1; done) | (congr 1; rw [Bool.eq_iff_iff]; simp))), rfl⟩
  · have hc : tr (decide (a ≠ b)) = c := by simpa [pairT] using hp
    clear hp
    go_enter Try.func82, Try.ntmps82
    go_wp2_with fail
    refine (truth_any _ _).mono ?_
    rintro e w' ⟨rfl, rfl⟩
    go_wp2
    go_ret
    exact ⟨ret_i (by rw [← hc]; all_goals (first | (congr 1; done) | (congr 1; rw [Bool.eq_iff_iff]; simp))), rfl⟩
  · have hc : tr (decide (a < b)) = c := by simpa [pairT] using hp
    clear hp
    go_enter Try.func83, Try.ntmps83
    go_wp2_with fail
    refine (truth_any _ _).mono ?_
    rintro e w' ⟨rfl, rfl⟩
    go_wp2
    go_ret
    exact ⟨ret_i (by rw [← hc]; all_goals (first | (congr 1; done) | (congr 1; rw [Bool.eq_iff_iff]; simp))), rfl⟩
  · have hc : tr (decide (a ≤ b)) = c := by simpa [pairT] using hp
    clear hp
    go_enter Try.func84, Try.ntmps84
    go_wp2_with fail
    refine (truth_any _ _).mono ?_
    rintro e w' ⟨rfl, rfl⟩
    go_wp2
    go_ret
    exact ⟨ret_i (by rw [← hc]; all_goals (first | (congr 1; done) | (congr 1; rw [Bool.eq_iff_iff]; simp))), rfl⟩
  · have hc : tr (decide (b < a)) = c := by simpa [pairT] using hp
    clear hp
    go_enter Try.func85, Try.ntmps85
    go_wp2_with fail
    refine (truth_any _ _).mono ?_
    rintro e w' ⟨rfl, rfl⟩
    go_wp2
    go_ret
    exact ⟨ret_i (by rw [← hc]; all_goals (first | (congr 1; done) | (congr 1; rw [Bool.eq_iff_iff]; simp))), rfl⟩
  · have hc : tr (decide (b ≤ a)) = c := by simpa [pairT] using hp
    clear hp
    go_enter Try.func86, Try.ntmps86
    go_wp2_with fail
    refine (truth_any _ _).mono ?_
    rintro e w' ⟨rfl, rfl⟩
    go_wp2
    go_ret
    exact ⟨ret_i (by rw [← hc]; all_goals (first | (congr 1; done) | (congr 1; rw [Bool.eq_iff_iff]; simp))), rfl⟩
  · by_cases h0 : b = 0
    · simp [pairT, h0] at hp
    have hc : wrap64 (a.tdiv b) = c := by simpa [pairT, h0] using hp
    subst hc; clear hp
    go_enter Try.func87, Try.ntmps87
    go_wp2
    go_ret
    exact ⟨ret_i rfl, rfl⟩
  · by_cases h0 : b = 0
    · simp [pairT, h0] at hp
    have hc : a.tmod b = c := by simpa [pairT, h0] using hp
    subst hc; clear hp
    go_enter Try.func88, Try.ntmps88
    go_wp2
    go_ret
    exact ⟨ret_i rfl, rfl⟩
theorem pairs_of {tag : Int} (h : 7 ≤ tag ∧ tag ≤ 17) : ∃ f, assoc tag pairsL = some (fnV f) := by
  have : tag = 7 ∨ tag = 8 ∨ tag = 9 ∨ tag = 12 ∨ tag = 13 ∨ tag = 14 ∨ tag = 15 ∨ tag = 16 ∨ tag = 17 ∨ tag = 10 ∨ tag = 11 := by omega
  rcases this with rfl | rfl | rfl | rfl | rfl | rfl | rfl | rfl | rfl | rfl | rfl <;> exact ⟨_, rfl⟩
theorem zero_fn {w : World} : (zeroValue 69).run Try.prog w = .ok Value.nilFunc w := by kernel_rfl
set_option maxRecDepth 100000 in
set_option maxHeartbeats 4000000 in
theorem mPairNo_any (L : Lay) (hL : LOk L) (m : Mm) (tag a b : Int) (W : World) (h : MRx L m W) (hp : pairT tag a b = none) : Calls Try.prog 53 #[.pointer (some ⟨L.M, 0, none⟩), .int .i64 tag, .int .i64 a, .int .i64 b] W fun e W' => (∃ u, e = .returned u) ∧ MRx L ⟨m.s.stop 1 0, m.stack⟩ W' ∧ Chg L W W' := by
  have hst := mStop_any L hL m 1 0 W h
  have Hst := Lib.hid hst
  have hb : b = 0 ∧ (tag = 10 ∨ tag = 11) := by
    unfold pairT at hp
    repeat' split at hp
    all_goals (first | (cases hp; done) | (refine ⟨?_, ?_⟩ <;> first | assumption | omega))
  obtain ⟨rfl, ht⟩ := hb
  clear hst h hp hL
  rcases ht with rfl | rfl
  all_goals
    go_enter Try.func53, Try.ntmps53
    go_wp2_with fail
    refine Hst.out.mono ?_
    rintro e W2 ⟨⟨u, rfl⟩, h2, g2⟩
    have G2 := Lib.hid g2
    have H2 := Lib.hid h2
    clear h2 g2
    go_wp2
    refine bodyPost_ret (results_none rfl _ _ _) rfl ?_
    exact ⟨⟨_, rfl⟩, H2.out, G2.out⟩
set_option maxRecDepth 100000 in
set_option maxHeartbeats 4000000 in
theorem mPair_any (L : Lay) (hL : LOk L) (s : Ms) (f : Fr) (r : List Fr) (tag a b c : Int) (W : World) (h : MRx L ⟨s, f :: r⟩ W) (hv : f.vals.length ≤ 1000) (ht : 7 ≤ tag ∧ tag ≤ 17) (hp : pairT tag a b = some c) : Calls Try.prog 53 #[.pointer (some ⟨L.M, 0, none⟩), .int .i64 tag, .int .i64 a, .int .i64 b] W fun e W' => (∃ u, e = .returned u) ∧ MRx L ⟨s, f.told c :: r⟩ W' ∧ Chg L W W' := by
  obtain ⟨fs, sv, ev, hfs, hm⟩ := h
  have hte := mTell_any L hL s f r c W ⟨fs, sv, ev, hfs, hm⟩ hv
  have hmb := hL.pairs W hm.core.im
  have Hte := Lib.hid hte
  have Hmb := Lib.hid hmb
  have c13 := hm.row.cellv (i := 13) (v := .map (some L.PB)) rfl
  have htags : tag = 7 ∨ tag = 8 ∨ tag = 9 ∨ tag = 12 ∨ tag = 13 ∨ tag = 14 ∨ tag = 15 ∨ tag = 16 ∨ tag = 17 ∨ tag = 10 ∨ tag = 11 := by omega
  clear hte hm hmb hL hfs ht
  rcases htags with rfl | rfl | rfl | rfl | rfl | rfl | rfl | rfl | rfl | rfl | rfl
  iterate 9
    · by_cases hb : b = 0
      · have e0 : (b == 0) = true := by simpa using hb
        clear hb
        have Hcl := Lib.hid (pairF_any _ a b c _ W rfl hp)
        clear hp
        go_enter Try.func53, Try.ntmps53
        go_wp2_with (refine wpList_lookup_map rfl _ _ rfl Try.underlying58 Try.underlying3 Hmb.out rfl _ rfl zero_fn ?_; simp only [pairsL, assoc, fnV, Option.getD_some, Int.reduceEq, if_false, if_true])
        refine Hcl.out.mono ?_
        rintro e w' ⟨rfl, rfl⟩
        go_wp2_with fail
        refine Hte.out.mono ?_
        rintro e W2 ⟨⟨u, rfl⟩, h2, g2⟩
        have G2 := Lib.hid g2
        have H2 := Lib.hid h2
        clear h2 g2
        go_wp2
        go_end0
        exact ⟨⟨_, rfl⟩, H2.out, G2.out⟩
      · have e0 : (b == 0) = false := by simpa using hb
        clear hb
        have Hcl := Lib.hid (pairF_any _ a b c _ W rfl hp)
        clear hp
        go_enter Try.func53, Try.ntmps53
        go_wp2_with (refine wpList_lookup_map rfl _ _ rfl Try.underlying58 Try.underlying3 Hmb.out rfl _ rfl zero_fn ?_; simp only [pairsL, assoc, fnV, Option.getD_some, Int.reduceEq, if_false, if_true])
        refine Hcl.out.mono ?_
        rintro e w' ⟨rfl, rfl⟩
        go_wp2_with fail
        refine Hte.out.mono ?_
        rintro e W2 ⟨⟨u, rfl⟩, h2, g2⟩
        have G2 := Lib.hid g2
        have H2 := Lib.hid h2
        clear h2 g2
        go_wp2
        go_end0
        exact ⟨⟨_, rfl⟩, H2.out, G2.out⟩
  all_goals
    by_cases hb : b = 0
    · subst hb; simp [pairT] at hp
    have e0 : (b == 0) = false := by simpa using hb
    clear hb
    have Hcl := Lib.hid (pairF_any _ a b c _ W rfl hp)
    clear hp
    go_enter Try.func53, Try.ntmps53
    go_wp2_with (refine wpList_lookup_map rfl _ _ rfl Try.underlying58 Try.underlying3 Hmb.out rfl _ rfl zero_fn ?_; simp only [pairsL, assoc, fnV, Option.getD_some, Int.reduceEq, if_false, if_true])
    refine Hcl.out.mono ?_
    rintro e w' ⟨rfl, rfl⟩
    go_wp2_with fail
    refine Hte.out.mono ?_
    rintro e W2 ⟨⟨u, rfl⟩, h2, g2⟩
    have G2 := Lib.hid g2
    have H2 := Lib.hid h2
    clear h2 g2
    go_wp2
    go_end0
    exact ⟨⟨_, rfl⟩, H2.out, G2.out⟩
end Go.Proofs.Ytlglilmgklipdaa
