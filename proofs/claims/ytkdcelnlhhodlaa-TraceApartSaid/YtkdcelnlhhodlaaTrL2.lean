/- The walk over the law TraceApart. -/
import Derived.Test.YtkdcelnlhhodlaaTrD
import Derived.Test.YtkdcelnlhhodlaaTrE
namespace Go.Proofs.Ytkdcelnlhhodlaa
open Go.RowKit Go.Deep

def outC (k v : Int) : List Value := [.int .i64 k, .int .i64 v]
theorem eql_outcome (k v k' v' : Int) (W : World) : (binOp .eql 23 (.agg (outC k v).toArray) (.agg (outC k' v').toArray)).run Try.prog W = .ok (.bool (k == k' && v == v')) W := by
  unfold outC
  simp [go_sem]
  by_cases h1 : k = k' <;> by_cases h2 : v = v' <;> simp [h1, h2]
theorem out_cells {W : World} {G : Nat} {r : RunV} (h : Row W G 26 r.cells) : ∀ j v, (outC r.kind r.value)[j]? = some v → W.cell? ((⟨G, 0, none⟩ : Addr).add j) = some v :=
  Row.from_ (cur := r.cells) h 0 (fun j v hj => by
    match j, hj with
    | 0, hj | 1, hj => exact hj)
theorem apart_eq {a b : RunV} {w w' : World} (ha : a.ok w) (hb : b.ok w') (la : a.evs.length ≤ 60) (lb : b.evs.length ≤ 60) :
    ((traceL a.kind a.value a.evs == traceL b.kind b.value b.evs) = true) ↔ (a.evs = b.evs ∧ a.kind = b.kind ∧ a.value = b.value) := by
  rw [beq_iff_eq]
  constructor
  · exact fun h => traceL_inj ha.kind ha.value hb.kind hb.value ha.evs hb.evs (by omega) (by omega) h
  · rintro ⟨h1, h2, h3⟩; rw [h1, h2, h3]

set_option maxRecDepth 100000 in
set_option maxHeartbeats 4000000 in
theorem traceApart_walk (a b : RunV) (w : World) (ha : a.ok w) (hb : b.ok w) : Calls Try.prog 4 #[a.val, b.val] w fun e w' => e = .returned (.bool true) ∧ Below w.heap.size w w' := by
  have Ha := Lib.hid ha
  have Hb := Lib.hid hb
  clear ha hb
  go_enter Try.func4, Try.ntmps4
  rw [show a.val = .agg a.cells from rfl, show b.val = .agg b.cells from rfl]
  go_wp2_with (refine at_box _ _ rfl ?_)
  refine Stop.to ?_
  refine wpList_box_gen rfl 26 _ rfl a.cells rfl ?_
  intro G w1 hG r1 b1
  have b1 := (Below.refl w.heap.size w).trans (b1.mono hG)
  go_wp2_with (refine at_box _ _ rfl ?_)
  refine Stop.to ?_
  refine wpList_box_gen rfl 26 _ rfl b.cells rfl ?_
  intro F w2 hF r2 b2
  have r1 := r1.below b2 (Nat.lt_of_lt_of_le r1.lt hF)
  have b2 := b1.trans ((b2.mono hF).mono b1.size)
  obtain ⟨S, hSd⟩ : ∃ S, S = (fun W => Row W G 26 a.cells ∧ Row W F 26 b.cells ∧ a.ok W ∧ b.ok W ∧ Below w.heap.size w W) := ⟨_, rfl⟩
  have stS : St S := by rw [hSd]; infer_instance
  have s0 : ∀ W, S W → Row W G 26 a.cells := by rw [hSd]; exact fun W h => h.1
  have s1 : ∀ W, S W → Row W F 26 b.cells := by rw [hSd]; exact fun W h => h.2.1
  have s2 : ∀ W, S W → a.ok W := by rw [hSd]; exact fun W h => h.2.2.1
  have s3 : ∀ W, S W → b.ok W := by rw [hSd]; exact fun W h => h.2.2.2.1
  have s4 : ∀ W, S W → Below w.heap.size w W := by rw [hSd]; exact fun W h => h.2.2.2.2
  have hS : S w2 := by rw [hSd]; exact ⟨r1, r2, Ha.out.ok_go b2, Hb.out.ok_go b2, b2⟩
  have S2' := Lib.hid s2
  have S3' := Lib.hid s3
  have S4' := Lib.hid s4
  clear hSd r1 b1 r2 b2 s2 s3 s4 hG hF
  go_wp2_with fail
  refine (trWorks_any w2).mono ?_
  rintro e w3 ⟨rfl, b3⟩
  have hS3 := stS.go hS b3
  clear hS b3
  have c3 := (s0 _ hS3).cellv (i := 3) (v := .slice a.addr a.evs.length a.cap) rfl
  have d3 := (s1 _ hS3).cellv (i := 3) (v := .slice b.addr b.evs.length b.cap) rfl
  by_cases hl : a.evs.length ≤ 60
  rotate_left
  · have hlI : 60 < (a.evs.length : Int) := by omega
    clear hl
    go_wp2_with fail
    go_ret
    exact ⟨rfl, S4'.out _ hS3⟩
  have hlI : (a.evs.length : Int) ≤ 60 := by omega
  have Hla := Lib.hid hl
  clear hl
  by_cases hm : b.evs.length ≤ 60
  rotate_left
  · have hmI : 60 < (b.evs.length : Int) := by omega
    clear hm
    go_wp2_with fail
    go_ret
    exact ⟨rfl, S4'.out _ hS3⟩
  have hmI : (b.evs.length : Int) ≤ 60 := by omega
  have Hlb := Lib.hid hm
  have Heq := Lib.hid (apart_eq Ha.out Hb.out Hla.out hm)
  clear hm
  go_wp2_with fail
  refine (refEvents_any a.addr b.addr a.cap b.cap a.evs b.evs w3 (S2'.out _ hS3).reads (S3'.out _ hS3).reads (by have := Hla.out; omega)).mono ?_
  rintro e w4 ⟨β, rfl, hβ, b4⟩
  have hS4 := stS.go hS3 b4
  have Hout := Lib.hid (eql_outcome a.kind a.value b.kind b.value)
  have Hβ := Lib.hid hβ
  clear hS3 b4 c3 d3 hβ
  cases β
  · have heq : (traceL a.kind a.value a.evs == traceL b.kind b.value b.evs) = false := by
      rw [← Bool.not_eq_true, Heq.out]
      exact fun h => absurd (Hβ.out.2 h.1) (by simp)
    have HE := Lib.hid heq
    clear heq
    go_wp2_with fail
    refine region_hold S (by kernel_rfl) (by kernel_rfl) (St.drew hS4) ?_
    clear hS4
    iterate 2 (refine hold_value rfl ?_ (fun W hW => ?_) ?_; rotate_left; (focus (go_simp; exact rfl)); simp only [Act.put, List.setIfInBounds_toArray, List.set_cons_zero, List.set_cons_succ])
    (refine hold_load_row rfl 26 _ rfl (G) rfl 26 _ _ s0 Try.underlying26 rfl (by kernel_rfl) ?_; simp only [Act.put, List.setIfInBounds_toArray, List.set_cons_zero, List.set_cons_succ])
    (refine hold_call_new rfl 7 _ (fun W => by (go_simp; try rfl)) _ (fun W hW => trBytes_any a W (S2'.out _ hW) (by have := Hla.out; omega)) ?_; simp only [Act.put, List.setIfInBounds_toArray, List.set_cons_zero, List.set_cons_succ])
    (refine hold_load_row rfl 26 _ rfl (F) rfl 26 _ _ s1 Try.underlying26 rfl (by kernel_rfl) ?_; simp only [Act.put, List.setIfInBounds_toArray, List.set_cons_zero, List.set_cons_succ])
    (refine hold_call_new rfl 7 _ (fun W => by (go_simp; try rfl)) _ (fun W hW => trBytes_any b W (S3'.out _ hW) (by have := Hlb.out; omega)) ?_; simp only [Act.put, List.setIfInBounds_toArray, List.set_cons_zero, List.set_cons_succ])
    have heq := HE.out
    iterate 3 (refine hold_value rfl ?_ (fun W hW => ?_) ?_; rotate_left; (focus (go_simp; exact rfl)); simp only [Act.put, List.setIfInBounds_toArray, List.set_cons_zero, List.set_cons_succ])
    iterate 5 (refine hold_skip rfl ?_; simp only [Act.put, List.setIfInBounds_toArray, List.set_cons_zero, List.set_cons_succ])
    iterate 4 (refine hold_value rfl ?_ (fun W hW => ?_) ?_; rotate_left; (focus (go_simp; exact rfl)); simp only [Act.put, List.setIfInBounds_toArray, List.set_cons_zero, List.set_cons_succ])
    refine wpHold_nil fun W hW => ?_
    have hb := S4'.out _ hW
    clear hW s0 s1 heq
    go_wp2
    go_ret
    exact ⟨rfl, hb⟩
  · have heq : (traceL a.kind a.value a.evs == traceL b.kind b.value b.evs) = (a.kind == b.kind && a.value == b.value) := by
      rw [Bool.eq_iff_iff, Heq.out, Bool.and_eq_true, beq_iff_eq, beq_iff_eq]
      exact ⟨fun h => h.2, fun h => ⟨Hβ.out.1 rfl, h⟩⟩
    have HE := Lib.hid heq
    clear heq
    go_wp2_with fail
    refine region_hold S (by kernel_rfl) (by kernel_rfl) (St.drew hS4) ?_
    clear hS4
    iterate 2 (refine hold_value rfl ?_ (fun W hW => ?_) ?_; rotate_left; (focus (go_simp; exact rfl)); simp only [Act.put, List.setIfInBounds_toArray, List.set_cons_zero, List.set_cons_succ])
    (refine hold_load_row rfl 26 _ rfl (G) rfl 26 _ _ s0 Try.underlying26 rfl (by kernel_rfl) ?_; simp only [Act.put, List.setIfInBounds_toArray, List.set_cons_zero, List.set_cons_succ])
    (refine hold_call_new rfl 7 _ (fun W => by (go_simp; try rfl)) _ (fun W hW => trBytes_any a W (S2'.out _ hW) (by have := Hla.out; omega)) ?_; simp only [Act.put, List.setIfInBounds_toArray, List.set_cons_zero, List.set_cons_succ])
    (refine hold_load_row rfl 26 _ rfl (F) rfl 26 _ _ s1 Try.underlying26 rfl (by kernel_rfl) ?_; simp only [Act.put, List.setIfInBounds_toArray, List.set_cons_zero, List.set_cons_succ])
    (refine hold_call_new rfl 7 _ (fun W => by (go_simp; try rfl)) _ (fun W hW => trBytes_any b W (S3'.out _ hW) (by have := Hlb.out; omega)) ?_; simp only [Act.put, List.setIfInBounds_toArray, List.set_cons_zero, List.set_cons_succ])
    refine hold_value rfl (.bool (a.kind == b.kind && a.value == b.value)) (fun W _ => by have heq := HE.out; go_simp) ?_
    simp only [Act.put, List.setIfInBounds_toArray, List.set_cons_zero, List.set_cons_succ]
    iterate 3 (refine hold_value rfl ?_ (fun W hW => ?_) ?_; rotate_left; (focus (go_simp; exact rfl)); simp only [Act.put, List.setIfInBounds_toArray, List.set_cons_zero, List.set_cons_succ])
    (refine hold_load_at rfl 23 _ rfl (⟨G, 0, none⟩) rfl (outC a.kind a.value) _ (fun W h => out_cells (s0 W h)) Try.underlying23 rfl (by kernel_rfl) ?_; simp only [Act.put, List.setIfInBounds_toArray, List.set_cons_zero, List.set_cons_succ])
    (refine hold_value rfl ?_ (fun W hW => ?_) ?_; rotate_left; (focus (go_simp; exact rfl)); simp only [Act.put, List.setIfInBounds_toArray, List.set_cons_zero, List.set_cons_succ])
    (refine hold_load_at rfl 23 _ rfl (⟨F, 0, none⟩) rfl (outC b.kind b.value) _ (fun W h => out_cells (s1 W h)) Try.underlying23 rfl (by kernel_rfl) ?_; simp only [Act.put, List.setIfInBounds_toArray, List.set_cons_zero, List.set_cons_succ])
    refine hold_value rfl (.bool (a.kind == b.kind && a.value == b.value)) (fun W _ => run_exec_binop rfl _ (run_eqGuard_agg _ _ _ _ _ _ _ (by kernel_rfl)) (by exact Hout.out W)) ?_
    simp only [Act.put, List.setIfInBounds_toArray, List.set_cons_zero, List.set_cons_succ]
    generalize (a.kind == b.kind && a.value == b.value) = γ
    iterate 4 (refine hold_value rfl ?_ (fun W hW => ?_) ?_; rotate_left; (focus (go_simp; exact rfl)); simp only [Act.put, List.setIfInBounds_toArray, List.set_cons_zero, List.set_cons_succ])
    refine wpHold_nil fun W hW => ?_
    have hb := S4'.out _ hW
    clear hW s0 s1
    go_wp2
    go_ret
    exact ⟨rfl, hb⟩
end Go.Proofs.Ytkdcelnlhhodlaa
