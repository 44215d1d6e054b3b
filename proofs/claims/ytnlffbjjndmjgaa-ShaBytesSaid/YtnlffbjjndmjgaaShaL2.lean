/- The walk over the law ShaBytes. -/
import Derived.Test.YtnlffbjjndmjgaaShaW
import Derived.Test.YtnlffbjjndmjgaaHold
import Derived.Deep.Cut
namespace Go.Proofs.Ytnlffbjjndmjgaa
open Go.RowKit Go.Deep

theorem wbytes_inj {x y : BitVec 32} (h : wbytes x = wbytes y) : x = y := by
  simp only [wbytes, List.cons.injEq, and_true] at h
  obtain ⟨h1, h2, h3, h4⟩ := h
  have e : ∀ a b : Nat, UInt8.ofNat a = UInt8.ofNat b → a % 256 = b % 256 := fun a b h => by
    have := congrArg UInt8.toNat h; simpa using this
  have k1 := e _ _ h1
  have k2 := e _ _ h2
  have k3 := e _ _ h3
  have k4 := e _ _ h4
  simp only [BitVec.toNat_ushiftRight, Nat.shiftRight_eq_div_pow] at k1 k2 k3
  apply BitVec.eq_of_toNat_eq
  have := x.isLt
  have := y.isLt
  omega
theorem bytesL_inj : ∀ {a b : List (BitVec 32)}, a.length = b.length → bytesL a = bytesL b → a = b
  | [], [], _, _ => rfl
  | x :: a, y :: b, hl, h => by
    have h' : wbytes x ++ bytesL a = wbytes y ++ bytesL b := h
    obtain ⟨h1, h2⟩ := List.append_inj h' rfl
    rw [wbytes_inj h1, bytesL_inj (by simpa using hl) h2]
  | [], _ :: _, hl, _ => by simp at hl
  | _ :: _, [], hl, _ => by simp at hl

theorem zero_state2 {w : World} : (zeroValue 29).run Try.prog w = .ok (.agg (wds [0, 0, 0, 0, 0, 0, 0, 0]).toArray) w := by kernel_rfl

set_option maxHeartbeats 2000000 in
theorem shaBytes_walk (H : List (BitVec 32)) (hH : H.length = 8) (L : List (BitVec 32)) (hL : L.length = 8) (w : World) : Calls Try.prog 8 #[.agg (wds H).toArray, .agg (wds L).toArray] w fun e w' => e = .returned (.bool true) ∧ Below w.heap.size w w' := by
  have hbld : ∀ X : List (BitVec 32), X.length = 8 → ∀ W, (Instr.build 29 #[(0, Value.agg (wds X).toArray)]).run Try.prog W = .ok (.agg (wds X).toArray) W := by
    intro X hX
    obtain ⟨a, b, c, d, e, f, g, i, rfl⟩ := eight hX
    intro W; kernel_rfl
  have hb1 := hbld H hH
  have hb2 := hbld L hL
  clear hbld
  have hcmp : (bytesL H == bytesL L) = decide (H = L) := by
    rw [Bool.eq_iff_iff]
    simp only [beq_iff_eq, decide_eq_true_eq]
    exact ⟨fun h => bytesL_inj (hH.trans hL.symm) h, fun h => by rw [h]⟩
  have heq : ∀ W, (Op.equalIn 10000 26 (.agg (wds H).toArray) (.agg (wds L).toArray)).run Try.prog W = .ok (decide (H = L)) W := fun W =>
    run_equalIn_words W 26 25 8 Try.underlying26 Try.underlying25 (fun _ => by kernel_rfl) H L hH hL
  have hlen : (⟨(bytesL H).toArray⟩ : ByteArray).size = 32 := by rw [size_mk, bytesL_len, hH]
  have Hcmp := Lib.hid hcmp
  have Heq := Lib.hid heq
  have Hlen := Lib.hid hlen
  have HH := Lib.hid hH
  have HL := Lib.hid hL
  have Hb1 := Lib.hid hb1
  have Hb2 := Lib.hid hb2
  clear hH hL hcmp heq hlen hb1 hb2
  go_enter Try.func8, Try.ntmps8
  go_wp2_with fail
  have r0 := (Row.new w 26 (wds H).toArray).alloc (.cells (wds L).toArray 26)
  have r1 := Row.new (w.alloc (.cells (wds H).toArray 26)) 26 (wds L).toArray
  rw [World.size_alloc] at r1
  have b0 := ((Below.refl w.heap.size w).alloc (Nat.le_refl _) (.cells (wds H).toArray 26)).alloc (by simp) (.cells (wds L).toArray 26)
  generalize (w.alloc (.cells (wds H).toArray 26)).alloc (.cells (wds L).toArray 26) = w1 at r0 r1 b0 ⊢
  refine (works_any w1).mono ?_
  rintro e w2 ⟨rfl, b2⟩
  obtain ⟨S, hSd⟩ : ∃ S, S = (fun W => Row W w.heap.size 26 (wds H).toArray ∧ Row W (w.heap.size + 1) 26 (wds L).toArray ∧ Below w.heap.size w W) := ⟨_, rfl⟩
  have stS : St S := by rw [hSd]; infer_instance
  have s0 : ∀ W, S W → Row W w.heap.size 26 (wds H).toArray := by rw [hSd]; exact fun W h => h.1
  have s1 : ∀ W, S W → Row W (w.heap.size + 1) 26 (wds L).toArray := by rw [hSd]; exact fun W h => h.2.1
  have s2 : ∀ W, S W → Below w.heap.size w W := by rw [hSd]; exact fun W h => h.2.2
  have hS : S w2 := stS.go (by rw [hSd]; exact ⟨r0, r1, b0⟩) b2
  have hmk : ∀ W, Row W w.heap.size 26 (wds H).toArray → Row W (w.heap.size + 1) 26 (wds L).toArray → Below w.heap.size w W → S W := by rw [hSd]; exact fun W h1 h2 h3 => ⟨h1, h2, h3⟩
  clear r0 r1 b0 b2 hSd
  go_wp2_with fail
  refine wp_cut (fun a W => ∃ g6 g7, w.heap.size + 1 < g6 ∧ w.heap.size + 1 < g7 ∧ S W ∧ Row W g6 29 (wds H).toArray ∧ Row W g7 29 (wds L).toArray ∧ a = { tmps := #[.agg (wds H).toArray, .agg (wds L).toArray, .pointer (some ⟨w.heap.size, 0, none⟩), .pointer (some ⟨w.heap.size + 1, 0, none⟩), .bool false, .bool true, .pointer (some ⟨g6, 0, none⟩), .pointer (some ⟨g7, 0, none⟩), .bool true, .bool true, .bool false, .agg (wds H).toArray, .agg (wds H).toArray, .agg (wds L).toArray, .agg (wds L).toArray, undef, undef, undef, undef, undef, undef, undef, undef, undef, undef, undef, undef, undef, undef, undef, undef, undef, undef], defers := [] }) ?rest ?first
  case first =>
    intro J K' hJ hK'
    have hS' := St.drew hS
    have HJ := Lib.hid hJ
    have HK := Lib.hid hK'
    clear hJ hK' hS
    refine wp_region_held (S := S) (by kernel_rfl) ?_
    simp only [List.size_toArray, List.length_cons, List.length_nil, Nat.reduceAdd, Array.replicate_succ, Array.replicate_zero, List.push_toArray, List.nil_append, List.cons_append]
    show wpAnyH _ _ _ _ _ _ _ _ w2.drew
    generalize w2.drew = w3 at hS' ⊢
    (refine takeH (i := 0) (v := _) rfl (by kernel_rfl) (by kernel_rfl) (by kernel_rfl) (fun _ _ _ h => h) (yields_row rfl 26 _ rfl w.heap.size rfl 26 _ _ s0 Try.underlying26 rfl (by rw [wds_size _ HH.out]; kernel_rfl)) (by assumption) ?_; simp only [Act.put, List.setIfInBounds_toArray, List.set_cons_zero, List.set_cons_succ])
    (refine takeH (i := 1) (v := _) rfl (by kernel_rfl) (by kernel_rfl) (by kernel_rfl) (fun _ _ _ h => h) (yields_val rfl (fun W _ => run_exec_build 29 [_] rfl _ (by exact Hb1.out W))) (by assumption) ?_; simp only [Act.put, List.setIfInBounds_toArray, List.set_cons_zero, List.set_cons_succ])
    (refine takeH (i := 2) (v := _) rfl (by kernel_rfl) (by kernel_rfl) (by kernel_rfl) (fun _ _ _ h => h) (yields_row rfl 26 _ rfl (w.heap.size + 1) rfl 26 _ _ s1 Try.underlying26 rfl (by rw [wds_size _ HL.out]; kernel_rfl)) (by assumption) ?_; simp only [Act.put, List.setIfInBounds_toArray, List.set_cons_zero, List.set_cons_succ])
    (refine takeH (i := 3) (v := _) rfl (by kernel_rfl) (by kernel_rfl) (by kernel_rfl) (fun _ _ _ h => h) (yields_val rfl (fun W _ => run_exec_build 29 [_] rfl _ (by exact Hb2.out W))) (by assumption) ?_; simp only [Act.put, List.setIfInBounds_toArray, List.set_cons_zero, List.set_cons_succ])
    refine wpAnyH_all (rs := [4, 5]) (by kernel_rfl) (by simp) (fun i hi => ?_)
    have q0 : ∀ W, S W → w.heap.size + 1 < W.heap.size := fun W h => (s1 W h).lt
    have only_S : ∀ W W' g, S W → Only g W W' → w.heap.size + 1 < g → S W' := fun W W' g h o hg => hmk _ ((s0 W h).only o (by omega)) ((s1 W h).only o (by omega)) (below_only (s2 W h) o (by omega))
    simp only [List.mem_cons, List.not_mem_nil, or_false] at hi
    rcases hi with rfl | rfl
    · refine wpOp_plain rfl rfl (fun K2 hK2 => ?_)
      refine wp_alloc_gen 29 rfl _ _ zero_state2 rfl ?_
      intro g6 w4 hg6 r6 b6
      refine hK2 _ _ ?_
      clear hK2 K2
      simp only [Act.put, List.setIfInBounds_toArray, List.set_cons_zero, List.set_cons_succ]
      have hS4 := St.from_ hS' b6 hg6
      have l6 := Nat.lt_of_lt_of_le (q0 _ hS') hg6
      clear hS' b6
      refine ⟨hS4, wpAnyH_all (rs := [5]) (by kernel_rfl) (by simp) (fun i hi => ?_)⟩
      obtain rfl : i = 5 := by simpa using hi
      refine wpOp_plain rfl rfl (fun K2 hK2 => ?_)
      refine wp_alloc_gen 29 rfl _ _ zero_state2 rfl ?_
      intro g7 w5 hg7 r7 b7
      refine hK2 _ _ ?_
      clear hK2 K2
      simp only [Act.put, List.setIfInBounds_toArray, List.set_cons_zero, List.set_cons_succ]
      have hS5 := St.from_ hS4 b7 hg7
      have l7 := Nat.lt_of_lt_of_le (q0 _ hS4) hg7
      have r6' := r6.below b7 (Nat.lt_of_lt_of_le r6.lt hg7)
      have ne : g6 ≠ g7 := Nat.ne_of_lt (Nat.lt_of_lt_of_le r6.lt hg7)
      clear hS4 b7 r6
      refine ⟨hS5, wpAnyH_all (rs := [6]) (by kernel_rfl) (by simp) (fun i hi => ?_)⟩
      obtain rfl : i = 6 := by simpa using hi
      refine wpOp_plain rfl rfl (fun K2 hK2 => ?_)
      refine (wp_store_gen 29 (.tmp 6) (.tmp 12) rfl g6 (wds H).toArray rfl rfl 29 _ r6' (by rw [wds_size _ HH.out]; kernel_rfl) (by rw [wds_size _ HH.out]; kernel_rfl) (wds_one _) ?_)
      intro w6 r6 o6
      refine hK2 _ _ ?_
      clear hK2 K2
      simp only [Act.put, List.setIfInBounds_toArray, List.set_cons_zero, List.set_cons_succ]
      refine ⟨only_S _ _ _ hS5 o6 l6, wpAnyH_all (rs := [7]) (by kernel_rfl) (by simp) (fun i hi => ?_)⟩
      obtain rfl : i = 7 := by simpa using hi
      refine wpOp_plain rfl rfl (fun K2 hK2 => ?_)
      refine (wp_store_gen 29 (.tmp 7) (.tmp 14) rfl g7 (wds L).toArray rfl rfl 29 _ (r7.only o6 ne.symm) (by rw [wds_size _ HL.out]; kernel_rfl) (by rw [wds_size _ HL.out]; kernel_rfl) (wds_one _) ?_)
      intro w7 r7'' o7
      refine hK2 _ _ ?_
      clear hK2 K2
      simp only [Act.put, List.setIfInBounds_toArray, List.set_cons_zero, List.set_cons_succ]
      have hS7 := only_S _ _ _ (only_S _ _ _ hS5 o6 l6) o7 l7
      refine ⟨hS7, wpAnyH_done (by kernel_rfl) ?_ _⟩
      exact HK.out _ _ (Met.intro (HJ.out _ _ ⟨g6, g7, l6, l7, hS7, r6.only o7 ne, r7'', rfl⟩))
    · refine wpOp_plain rfl rfl (fun K2 hK2 => ?_)
      refine wp_alloc_gen 29 rfl _ _ zero_state2 rfl ?_
      intro g7 w4 hg7 r7' b7
      refine hK2 _ _ ?_
      clear hK2 K2
      simp only [Act.put, List.setIfInBounds_toArray, List.set_cons_zero, List.set_cons_succ]
      have hS4 := St.from_ hS' b7 hg7
      have l7 := Nat.lt_of_lt_of_le (q0 _ hS') hg7
      clear hS' b7
      refine ⟨hS4, wpAnyH_all (rs := [4]) (by kernel_rfl) (by simp) (fun i hi => ?_)⟩
      obtain rfl : i = 4 := by simpa using hi
      refine wpOp_plain rfl rfl (fun K2 hK2 => ?_)
      refine wp_alloc_gen 29 rfl _ _ zero_state2 rfl ?_
      intro g6 w5 hg6 r6' b6
      refine hK2 _ _ ?_
      clear hK2 K2
      simp only [Act.put, List.setIfInBounds_toArray, List.set_cons_zero, List.set_cons_succ]
      have hS5 := St.from_ hS4 b6 hg6
      have l6 := Nat.lt_of_lt_of_le (q0 _ hS4) hg6
      have r7 := r7'.below b6 (Nat.lt_of_lt_of_le r7'.lt hg6)
      have ne : g6 ≠ g7 := Nat.ne_of_gt (Nat.lt_of_lt_of_le r7'.lt hg6)
      clear hS4 b6 r7'
      refine ⟨hS5, wpAnyH_all (rs := [6]) (by kernel_rfl) (by simp) (fun i hi => ?_)⟩
      obtain rfl : i = 6 := by simpa using hi
      refine wpOp_plain rfl rfl (fun K2 hK2 => ?_)
      refine (wp_store_gen 29 (.tmp 6) (.tmp 12) rfl g6 (wds H).toArray rfl rfl 29 _ r6' (by rw [wds_size _ HH.out]; kernel_rfl) (by rw [wds_size _ HH.out]; kernel_rfl) (wds_one _) ?_)
      intro w6 r6 o6
      refine hK2 _ _ ?_
      clear hK2 K2
      simp only [Act.put, List.setIfInBounds_toArray, List.set_cons_zero, List.set_cons_succ]
      refine ⟨only_S _ _ _ hS5 o6 l6, wpAnyH_all (rs := [7]) (by kernel_rfl) (by simp) (fun i hi => ?_)⟩
      obtain rfl : i = 7 := by simpa using hi
      refine wpOp_plain rfl rfl (fun K2 hK2 => ?_)
      refine (wp_store_gen 29 (.tmp 7) (.tmp 14) rfl g7 (wds L).toArray rfl rfl 29 _ (r7.only o6 ne.symm) (by rw [wds_size _ HL.out]; kernel_rfl) (by rw [wds_size _ HL.out]; kernel_rfl) (wds_one _) ?_)
      intro w7 r7'' o7
      refine hK2 _ _ ?_
      clear hK2 K2
      simp only [Act.put, List.setIfInBounds_toArray, List.set_cons_zero, List.set_cons_succ]
      have hS7 := only_S _ _ _ (only_S _ _ _ hS5 o6 l6) o7 l7
      refine ⟨hS7, wpAnyH_done (by kernel_rfl) ?_ _⟩
      exact HK.out _ _ (Met.intro (HJ.out _ _ ⟨g6, g7, l6, l7, hS7, r6.only o7 ne, r7'', rfl⟩))
  case rest =>
    rintro a W ⟨g6, g7, l6, l7, hSW, r6, r7, rfl⟩
    dsimp only
    have q0 : ∀ W, (S W ∧ Row W g6 29 (wds H).toArray ∧ Row W g7 29 (wds L).toArray) → Row W w.heap.size 26 (wds H).toArray := fun W h => s0 W h.1
    have q1 : ∀ W, (S W ∧ Row W g6 29 (wds H).toArray ∧ Row W g7 29 (wds L).toArray) → Row W (w.heap.size + 1) 26 (wds L).toArray := fun W h => s1 W h.1
    have q2 : ∀ W, (S W ∧ Row W g6 29 (wds H).toArray ∧ Row W g7 29 (wds L).toArray) → Row W g6 29 (wds H).toArray := fun W h => h.2.1
    have q3 : ∀ W, (S W ∧ Row W g6 29 (wds H).toArray ∧ Row W g7 29 (wds L).toArray) → Row W g7 29 (wds L).toArray := fun W h => h.2.2
    have hq : (fun W => S W ∧ Row W g6 29 (wds H).toArray ∧ Row W g7 29 (wds L).toArray) W := ⟨hSW, r6, r7⟩
    clear hmk hS s0 s1 r6 r7 hSW
    go_wp2_with fail
    refine region_hold (fun W => S W ∧ Row W g6 29 (wds H).toArray ∧ Row W g7 29 (wds L).toArray) (by kernel_rfl) (by kernel_rfl) (St.drew (S := fun W => S W ∧ Row W g6 29 (wds H).toArray ∧ Row W g7 29 (wds L).toArray) hq) ?_
    clear hq
    have hlen := Hlen.out
    iterate 2 (refine hold_value rfl ?_ (fun W hW => ?_) ?_; rotate_left; (focus (go_simp; exact rfl)); simp only [Act.put, List.setIfInBounds_toArray, List.set_cons_zero, List.set_cons_succ])
    (refine hold_load_row rfl 29 _ rfl (g6) rfl 29 _ _ q2 Try.underlying29 rfl (by rw [wds_size _ HH.out]; kernel_rfl) ?_; simp only [Act.put, List.setIfInBounds_toArray, List.set_cons_zero, List.set_cons_succ])
    (refine hold_call_new rfl 16 _ (fun W => by go_simp) _ (fun W hW => bytes_any H HH.out W) ?_; simp only [Act.put, List.setIfInBounds_toArray, List.set_cons_zero, List.set_cons_succ])
    iterate 4 (refine hold_value rfl ?_ (fun W hW => ?_) ?_; rotate_left; (focus (go_simp; exact rfl)); simp only [Act.put, List.setIfInBounds_toArray, List.set_cons_zero, List.set_cons_succ])
    (refine hold_load_row rfl 29 _ rfl (g6) rfl 29 _ _ q2 Try.underlying29 rfl (by rw [wds_size _ HH.out]; kernel_rfl) ?_; simp only [Act.put, List.setIfInBounds_toArray, List.set_cons_zero, List.set_cons_succ])
    (refine hold_call_new rfl 16 _ (fun W => by go_simp) _ (fun W hW => bytes_any H HH.out W) ?_; simp only [Act.put, List.setIfInBounds_toArray, List.set_cons_zero, List.set_cons_succ])
    (refine hold_load_row rfl 29 _ rfl (g7) rfl 29 _ _ q3 Try.underlying29 rfl (by rw [wds_size _ HL.out]; kernel_rfl) ?_; simp only [Act.put, List.setIfInBounds_toArray, List.set_cons_zero, List.set_cons_succ])
    (refine hold_call_new rfl 16 _ (fun W => by go_simp) _ (fun W hW => bytes_any L HL.out W) ?_; simp only [Act.put, List.setIfInBounds_toArray, List.set_cons_zero, List.set_cons_succ])
    have hcmp := Hcmp.out
    (refine hold_value rfl ?_ (fun W hW => ?_) ?_; rotate_left; (focus (go_simp; exact rfl)); simp only [Act.put, List.setIfInBounds_toArray, List.set_cons_zero, List.set_cons_succ])
    (refine hold_load_row rfl 26 _ rfl (w.heap.size) rfl 26 _ _ q0 Try.underlying26 rfl (by rw [wds_size _ HH.out]; kernel_rfl) ?_; simp only [Act.put, List.setIfInBounds_toArray, List.set_cons_zero, List.set_cons_succ])
    (refine hold_load_row rfl 26 _ rfl (w.heap.size + 1) rfl 26 _ _ q1 Try.underlying26 rfl (by rw [wds_size _ HL.out]; kernel_rfl) ?_; simp only [Act.put, List.setIfInBounds_toArray, List.set_cons_zero, List.set_cons_succ])
    have heq := Heq.out
    iterate 4 (refine hold_value rfl ?_ (fun W hW => ?_) ?_; rotate_left; (focus (go_simp; exact rfl)); simp only [Act.put, List.setIfInBounds_toArray, List.set_cons_zero, List.set_cons_succ])
    refine wpHold_nil fun W hW => ?_
    have hb := s2 W hW.1
    clear heq hcmp q0 q1 q2 q3 hW s2
    go_wp2
    go_ret
    exact ⟨rfl, hb⟩

end Go.Proofs.Ytnlffbjjndmjgaa
