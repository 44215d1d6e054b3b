/- The walk over kinds.Of. Conditions: stated in the theorem. -/
import Derived.Test.YtlglilmgklipdaaKdO
namespace Go.Proofs.Ytlglilmgklipdaa
set_option linter.unusedVariables false
open Go.RowKit Go.Deep

theorem RS.rb {w W : World} {M : Nat} {D : List Int} (h : RS w W M D) (hD : ∀ k, k ∈ D ↔ (1 ≤ k ∧ k ≤ 26 ∧ k ≠ 20)) : RB M W := by
  obtain ⟨es, h1, h2, h3⟩ := h.map
  subst h2
  exact ⟨es, h1, h3, hD⟩
set_option maxRecDepth 100000 in
set_option maxHeartbeats 4000000 in
theorem kOf_tree (p : PgV) (hbl : p.body.length ≤ 1000) (t : Tr) (q : Nat) (hat : At p.body q t) (w : World) (hok : p.ok w) : Calls Try.prog 43 #[.agg p.cells, .int .i64 (q : Int)] w fun e w' => e = .returned (.int .i64 (ofT p.V t)) ∧ Below w.heap.size w w' := by
  have Hbl := Lib.hid hbl
  have Hat := Lib.hid hat
  have Hok := Lib.hid hok
  have Hend : Hid (endZ p.body (q : Int) = ((q + t.size : Nat) : Int)) := hat.endZ
  have hpos0 : 0 ≤ ((q + t.size : Nat) : Int) := by omega
  clear hbl hat hok
  go_enter Try.func43, Try.ntmps43
  go_wp2_with (refine at_box _ _ rfl ?_)
  refine Stop.to ?_
  refine wpList_box_gen rfl 25 _ rfl p.cells rfl ?_
  intro G w1 hG r1 b1
  have b1 := (Below.refl w.heap.size w).trans (b1.mono hG)
  have c2 := r1.cellv (i := 2) (v := .slice p.ba p.body.length p.bcap) rfl
  have Hok1 := Lib.hid (Hok.out.go b1)
  clear hG Hok
  go_wp2_with fail
  refine (end_any p.ba p.bcap p.body (q : Int) w1 Hok1.out.brd Hbl.out).mono ?_
  rintro e w2 ⟨rfl, b2⟩
  rw [Hend.out]
  obtain ⟨S, hSd⟩ : ∃ S, S = (fun W => Row W G 25 p.cells ∧ p.ok W ∧ Below w.heap.size w W) := ⟨_, rfl⟩
  have stS : St S := by rw [hSd]; infer_instance
  have S0 : Hid (∀ W, S W → Row W G 25 p.cells) := by show ∀ W, _; rw [hSd]; exact fun W h => h.1
  have S1 : Hid (∀ W, S W → p.ok W) := by show ∀ W, _; rw [hSd]; exact fun W h => h.2.1
  have S2 : Hid (∀ W, S W → Below w.heap.size w W) := by show ∀ W, _; rw [hSd]; exact fun W h => h.2.2
  have hS2 : S w2 := by rw [hSd]; exact ⟨r1.below b2 r1.lt, Hok1.out.go b2, b1.trans (b2.mono b1.size)⟩
  clear hSd r1 b1 b2 c2 Hok1
  go_wp2_with fail
  refine wp_region_held (S := S) (by kernel_rfl) ?_
  simp only [List.size_toArray, List.length_cons, List.length_nil, Nat.reduceAdd, Array.replicate_succ, Array.replicate_zero, List.push_toArray, List.nil_append, List.cons_append]
  show wpAnyH _ _ _ _ _ _ _ _ w2.drew
  have hS : S w2.drew := St.drew hS2
  clear hS2
  generalize w2.drew = wd at hS ⊢
  (refine takeH (i := 0) (v := _) rfl (by kernel_rfl) (by kernel_rfl) (by kernel_rfl) (fun _ _ _ h => h) (yields_row rfl 25 _ rfl G rfl 25 p.cells _ S0.out Try.underlying25 rfl (by kernel_rfl)) (by assumption) ?_; simp only [Act.put, List.setIfInBounds_toArray, List.set_cons_zero, List.set_cons_succ])
  (refine takeH (i := 3) (v := .int .i64 (q : Int)) rfl (by kernel_rfl) (by kernel_rfl) (by kernel_rfl) (fun _ _ _ h => h) (yields_val rfl (fun W hW => by (go_simp))) (by assumption) ?_; simp only [Act.put, List.setIfInBounds_toArray, List.set_cons_zero, List.set_cons_succ])
  (refine wpAnyH_all (rs := [1]) (by kernel_rfl) (by simp) (fun i hi => ?_); obtain rfl : i = 1 := by simpa using hi)
  refine wpOp_plain rfl rfl (fun K2 hK2 => ?_)
  refine wp_call_gen (w1 := wd) 61 #[] (by go_simp; try rfl) ?_
  refine (rules_any wd).mono ?_
  rintro e wr ⟨M, D, rfl, hrs, hD⟩
  refine ⟨_, rfl, hK2 _ _ ?_⟩
  clear hK2 K2
  have hS := stS.go hS hrs.below
  have hrb := hrs.rb hD
  have Hrb := Lib.hid hrb
  clear hrb hrs hD
  simp only [Act.put, List.setIfInBounds_toArray, List.set_cons_zero, List.set_cons_succ]
  refine ⟨hS, ?_⟩
  (refine takeH (i := 2) (v := .agg (checkC p M)) rfl (by kernel_rfl) (by kernel_rfl) (by kernel_rfl) (fun _ _ _ h => h) (yields_val rfl (fun W hW => by (go_simp; try rfl))) (by assumption) ?_; simp only [Act.put, List.setIfInBounds_toArray, List.set_cons_zero, List.set_cons_succ])
  (refine wpAnyH_all (rs := [4]) (by kernel_rfl) (by simp) (fun i hi => ?_); obtain rfl : i = 4 := by simpa using hi)
  refine wpOp_plain rfl rfl (fun K2 hK2 => ?_)
  refine wp_call_gen (w1 := wr) 62 #[.agg (checkC p M), .int .i64 (q : Int)] (by go_simp; try rfl) ?_
  refine (of_tree p M Hbl.out t.size t q (Nat.le_refl _) Hat.out wr (S1.out _ hS) Hrb.out).mono ?_
  rintro e w6 ⟨rfl, b6⟩
  refine ⟨_, rfl, hK2 _ _ ?_⟩
  clear hK2 K2
  have hS := stS.go hS b6
  simp only [Act.put, List.setIfInBounds_toArray, List.set_cons_zero, List.set_cons_succ]
  refine ⟨hS, ?_⟩
  (refine takeH (i := 5) (v := .int .i64 (ofT p.V t)) rfl (by kernel_rfl) (by kernel_rfl) (by kernel_rfl) (fun _ _ _ h => h) (yields_val rfl (fun W hW => by (go_simp))) (by assumption) ?_; simp only [Act.put, List.setIfInBounds_toArray, List.set_cons_zero, List.set_cons_succ])
  refine wpAnyH_done (by kernel_rfl) ?_ _
  go_wp2
  go_ret
  exact ⟨rfl, S2.out _ hS⟩
end Go.Proofs.Ytlglilmgklipdaa
