/- The walk over the law TraceTells. -/
import Derived.Test.YtkdcelnlhhodlaaTrD
namespace Go.Proofs.Ytkdcelnlhhodlaa
open Go.RowKit Go.Deep

set_option maxRecDepth 100000 in
set_option maxHeartbeats 2000000 in
theorem traceTells_walk (r : RunV) (w : World) (hok : r.ok w) : Calls Try.prog 3 #[r.val] w fun e w' => e = .returned (.bool true) ∧ Below w.heap.size w w' := by
  have Hok := Lib.hid hok
  clear hok
  go_enter Try.func3, Try.ntmps3
  rw [show r.val = .agg r.cells from rfl]
  go_wp2_with (refine at_box _ _ rfl ?_)
  refine Stop.to ?_
  refine wpList_box_gen rfl 26 _ rfl r.cells rfl ?_
  intro G w1 hG r1 b1
  have b1 := (Below.refl w.heap.size w).trans (b1.mono hG)
  obtain ⟨S, hSd⟩ : ∃ S, S = (fun W => Row W G 26 r.cells ∧ r.ok W ∧ Below w.heap.size w W) := ⟨_, rfl⟩
  have stS : St S := by rw [hSd]; infer_instance
  have s0 : ∀ W, S W → Row W G 26 r.cells := by rw [hSd]; exact fun W h => h.1
  have s1 : ∀ W, S W → r.ok W := by rw [hSd]; exact fun W h => h.2.1
  have s2 : ∀ W, S W → Below w.heap.size w W := by rw [hSd]; exact fun W h => h.2.2
  have hS : S w1 := by rw [hSd]; exact ⟨r1, Hok.out.ok_go b1, b1⟩
  have S0' := Lib.hid s0
  have S1' := Lib.hid s1
  have S2' := Lib.hid s2
  clear hSd r1 b1 s1 s2 hG
  go_wp2_with fail
  refine (trWorks_any w1).mono ?_
  rintro e w2 ⟨rfl, b2⟩
  have hS2 := stS.go hS b2
  clear hS b2
  have c3 := (s0 _ hS2).cellv (i := 3) (v := .slice r.addr r.evs.length r.cap) rfl
  by_cases hl : r.evs.length ≤ 60
  · have hlI : (r.evs.length : Int) ≤ 60 := by omega
    have Hl : Hid (r.evs.length ≤ 100) := by show r.evs.length ≤ 100; omega
    have Hl2 : Hid (r.evs.length ≤ 1000) := by show r.evs.length ≤ 1000; omega
    clear hl
    go_wp2_with fail
    refine region_hold S (by kernel_rfl) (by kernel_rfl) (St.drew hS2) ?_
    clear hS2 c3
    iterate 2 (refine hold_value rfl ?_ (fun W hW => ?_) ?_; rotate_left; (focus (go_simp; exact rfl)); simp only [Act.put, List.setIfInBounds_toArray, List.set_cons_zero, List.set_cons_succ])
    (refine hold_load_row rfl 26 _ rfl (G) rfl 26 _ _ s0 Try.underlying26 rfl (by kernel_rfl) ?_; simp only [Act.put, List.setIfInBounds_toArray, List.set_cons_zero, List.set_cons_succ])
    (refine hold_call_new rfl 7 _ (fun W => by (go_simp; try rfl)) _ (fun W hW => trBytes_any r W (S1'.out _ hW) Hl2.out) ?_; simp only [Act.put, List.setIfInBounds_toArray, List.set_cons_zero, List.set_cons_succ])
    (refine hold_load_row rfl 26 _ rfl (G) rfl 26 _ _ s0 Try.underlying26 rfl (by kernel_rfl) ?_; simp only [Act.put, List.setIfInBounds_toArray, List.set_cons_zero, List.set_cons_succ])
    (refine hold_call_new rfl 8 _ (fun W => by (go_simp; try rfl)) _ (fun W hW => refTrBytes_any r W (S1'.out _ hW) Hl2.out) ?_; simp only [Act.put, List.setIfInBounds_toArray, List.set_cons_zero, List.set_cons_succ])
    iterate 3 (refine hold_value rfl ?_ (fun W hW => ?_) ?_; rotate_left; (focus (go_simp; exact rfl)); simp only [Act.put, List.setIfInBounds_toArray, List.set_cons_zero, List.set_cons_succ])
    (refine hold_load_row rfl 26 _ rfl (G) rfl 26 _ _ s0 Try.underlying26 rfl (by kernel_rfl) ?_; simp only [Act.put, List.setIfInBounds_toArray, List.set_cons_zero, List.set_cons_succ])
    (refine hold_call_new rfl 9 _ (fun W => by (go_simp; try rfl)) _ (fun W hW => trDigest_any r W (S1'.out _ hW) Hl.out) ?_; simp only [Act.put, List.setIfInBounds_toArray, List.set_cons_zero, List.set_cons_succ])
    (refine hold_load_row rfl 26 _ rfl (G) rfl 26 _ _ s0 Try.underlying26 rfl (by kernel_rfl) ?_; simp only [Act.put, List.setIfInBounds_toArray, List.set_cons_zero, List.set_cons_succ])
    (refine hold_call_new rfl 10 _ (fun W => by (go_simp; try rfl)) _ (fun W hW => refTrDigest_any r W (S1'.out _ hW) Hl.out) ?_; simp only [Act.put, List.setIfInBounds_toArray, List.set_cons_zero, List.set_cons_succ])
    iterate 3 (refine hold_value rfl ?_ (fun W hW => ?_) ?_; rotate_left; (focus (go_simp; exact rfl)); simp only [Act.put, List.setIfInBounds_toArray, List.set_cons_zero, List.set_cons_succ])
    (refine hold_load_row rfl 26 _ rfl (G) rfl 26 _ _ s0 Try.underlying26 rfl (by kernel_rfl) ?_; simp only [Act.put, List.setIfInBounds_toArray, List.set_cons_zero, List.set_cons_succ])
    (refine hold_call_new rfl 9 _ (fun W => by (go_simp; try rfl)) _ (fun W hW => trDigest_any r W (S1'.out _ hW) Hl.out) ?_; simp only [Act.put, List.setIfInBounds_toArray, List.set_cons_zero, List.set_cons_succ])
    (refine hold_load_row rfl 26 _ rfl (G) rfl 26 _ _ s0 Try.underlying26 rfl (by kernel_rfl) ?_; simp only [Act.put, List.setIfInBounds_toArray, List.set_cons_zero, List.set_cons_succ])
    (refine hold_call_new rfl 7 _ (fun W => by (go_simp; try rfl)) _ (fun W hW => trBytes_any r W (S1'.out _ hW) Hl2.out) ?_; simp only [Act.put, List.setIfInBounds_toArray, List.set_cons_zero, List.set_cons_succ])
    refine hold_call_new rfl 11 _ (fun W => by go_simp) _ (fun W hW => sum_any ⟨(traceL r.kind r.value r.evs).toArray⟩ (by rw [size_mk]; have := traceL_len r.kind r.value r.evs; have := Hl.out; omega) W) ?_
    simp only [Act.put, List.setIfInBounds_toArray, List.set_cons_zero, List.set_cons_succ]
    have hdig : (digL r == sumL (traceL r.kind r.value r.evs)) = true := by simp [digL]
    iterate 3 (refine hold_value rfl ?_ (fun W hW => ?_) ?_; rotate_left; (focus (go_simp; exact rfl)); simp only [Act.put, List.setIfInBounds_toArray, List.set_cons_zero, List.set_cons_succ])
    refine wpHold_nil fun W hW => ?_
    have hb := S2'.out _ hW
    clear hW s0 hdig
    go_wp2
    go_ret
    exact ⟨rfl, hb⟩
  · have hlI : 60 < (r.evs.length : Int) := by omega
    clear hl
    go_wp2_with fail
    go_ret
    exact ⟨rfl, S2'.out _ hS2⟩
end Go.Proofs.Ytkdcelnlhhodlaa
