/- The walk over slices.Repeat at a slice of one number. Conditions: stated in the theorem. -/
import Derived.Test.YtlglilmgklipdaaShMul
import Derived.Test.YtlglilmgklipdaaRf9c
import Derived.Laws.CopyOwn
import Derived.Deep.RegionLaw
namespace Go.Proofs.Ytlglilmgklipdaa
set_option linter.unusedVariables false
open Go.RowKit Go.Deep

theorem madeCells_one (z : Value) (n : Nat) : madeCells #[z] n = (List.replicate n z).toArray := by
  unfold madeCells
  apply Array.ext
  · simp
  · intro i h1 h2; simp [Nat.mod_one]
theorem nmin (a b : Nat) : Nat.min a b ≤ a ∧ Nat.min a b ≤ b ∧ (Nat.min a b = a ∨ Nat.min a b = b) := by
  show min a b ≤ a ∧ min a b ≤ b ∧ (min a b = a ∨ min a b = b)
  omega
theorem run_exec_copy {P : Program} {o : Oper} {w w1 : World} {ρ : Operand → Value} {s x : Operand} {t t' : TypeId} (ho : o.op = .call { callee := .builtin .copy, args := #[s, x], argTypes := #[t, t'] }) {v : Value} (hv : (Builtin.copy_ #[t, t'] o.type #[ρ s, ρ x]).run P w = .ok v w1) : (execOp ρ o).run P w = .ok (.value v) w1 := by
  unfold execOp
  simp only [ho, resolve, invoke, builtin, Sem.run_bind, Sem.run_pure, Result.andThen_ok, List.map_toArray, List.map_cons, List.map_nil, hv]
theorem splice_rep (k n m : Nat) (x : Int) (hk : k + m ≤ n) : splice (ints (List.replicate k x ++ List.replicate (n - k) 0)) k (ints (List.replicate m x)) = ints (List.replicate (k + m) x ++ List.replicate (n - (k + m)) 0) := by
  unfold splice ints
  simp only [List.map_append, List.map_replicate, List.length_replicate]
  rw [List.take_append_of_le_length (by simp), List.take_of_length_le (by simp), List.drop_append, List.drop_eq_nil_of_le (by simp), List.length_replicate, List.drop_replicate, List.nil_append, ← List.append_assoc, List.replicate_append_replicate, show n - k - (k + m - k) = n - (k + m) by omega]
set_option maxRecDepth 100000 in
set_option maxHeartbeats 4000000 in
theorem repeat_any (g cap n : Nat) (x : Int) (w : World) (hr : Row w g 3 #[.int .i64 x]) (hn : n ≤ 1000) : Calls Try.prog 113 #[.slice (some ⟨g, 0, none⟩) 1 cap, .int .i64 (n : Int)] w fun e w' => IntsR (List.replicate n x) w w' e := by
  have hmul : ∀ W, Calls Try.prog 118 #[.int .u64 1, .int .u64 (n : Int)] W fun e w' => e = .returned (.tuple #[.int .u64 0, .int .u64 (n : Int)]) ∧ w' = W := fun W => by
    have := bits_Mul 1 n (by omega) (by omega) W
    rw [Nat.one_mul, Nat.div_eq_of_lt (by omega), Nat.mod_eq_of_lt (by omega)] at this
    exact this
  have Hmul := Lib.hid hmul
  clear hmul
  have hmk : ∀ W : World, (Instr.makeSlice 22 (.int .i64 (n : Int)) (.int .i64 (n : Int))).run Try.prog W = .ok (.slice (some ⟨W.heap.size, 0, none⟩) n n) (W.alloc (.cells (ints (List.replicate n 0)).toArray 3)) := fun W => by
    have := run_make_row' (P := Try.prog) (w := W) 22 3 (.int .i64 0) 8 Try.underlying22 info_int rfl .i64 .i64 n (by omega) (by omega)
    rw [show madeCells #[Value.int .i64 0] n = (ints (List.replicate n 0)).toArray from by rw [madeCells_one]; simp [ints]] at this
    exact this
  go_enter Try.func113, Try.ntmps113
  have hdec : decide ((n : Int) < 0) = false := by simp
  have hdec2 : decide (9223372036854775807 < (n : Int)) = false := by simp; omega
  go_wp2_with fail
  refine (Hmul.out w).mono ?_
  rintro e w1 ⟨rfl, hw⟩
  subst hw
  clear Hmul
  have hsp := splice_rep 0 n (Nat.min 1 n) x (by rw [Nat.zero_add]; exact Nat.min_le_right _ _)
  rw [Nat.zero_add, List.replicate_zero, List.nil_append, Nat.sub_zero] at hsp
  have Hsp := Lib.hid hsp
  clear hsp
  have rn := Row.new w1 3 (ints (List.replicate n 0)).toArray
  have hr1 := hr.alloc (.cells (ints (List.replicate n 0)).toArray 3)
  have hc1 : ∀ (j : Nat) (v : Value), (ints (List.replicate (Nat.min 1 n) x))[j]? = some v → (w1.alloc (.cells (ints (List.replicate n 0)).toArray 3)).cell? ((⟨g, 0, none⟩ : Addr).add j) = some v :=
    hr1.from_ 0 (cs := ints (List.replicate (Nat.min 1 n) x)) (fun j v hj => by
      have hlt := (List.getElem?_eq_some_iff.1 hj).1
      have h1 : (ints (List.replicate (Nat.min 1 n) x)).length ≤ 1 := by simp [ints]; exact Nat.min_le_left _ _
      obtain rfl : j = 0 := by omega
      rw [← hj]
      simp only [ints, List.map_replicate, List.getElem?_replicate]
      rw [if_pos (by simpa [ints] using hlt)]; rfl)
  have Hc1 := Lib.hid hc1
  have Rn := Lib.hid rn
  have hlen1 : (ints (List.replicate (Nat.min 1 n) x)).length = Nat.min 1 n := by simp [ints]
  have Hl1 := Lib.hid hlen1
  clear rn hr1 hr hc1 hlen1
  go_wp2_with (refine wpList_copy_splice rfl (.tmp 31) (.tmp 32) 22 22 rfl 3 Try.underlying22 rfl (some ⟨w1.heap.size, 0, none⟩) (some ⟨g, 0, none⟩) n n 1 cap rfl rfl w1.heap.size 0 (ints (List.replicate n 0)) 3 Rn.out (ints (List.replicate (Nat.min 1 n) x)) Hl1.out (fun _ => ⟨rfl, _, rfl, Hc1.out⟩) (by rw [Hl1.out]; simp [ints]; exact Nat.min_le_right _ _) (ints_one _) w1.heap.size w1 ((Below.refl _ _).alloc (Nat.le_refl _) _) (Nat.le_refl _) ?_; intro w2 h2 b2)
  have r2 : Row w2 w1.heap.size 3 (ints (List.replicate (Nat.min 1 n) x ++ List.replicate (n - Nat.min 1 n) 0)).toArray := by rw [← Hsp.out]; exact h2.out
  obtain ⟨G, hG⟩ : ∃ G, G = w1.heap.size := ⟨_, rfl⟩
  rw [← hG] at r2 ⊢
  obtain ⟨k0, hk0⟩ : ∃ k0, k0 = Nat.min 1 n := ⟨_, rfl⟩
  rw [Hl1.out, ← hk0]
  rw [← hk0] at r2
  have hk0n : k0 ≤ n ∧ (k0 = 0 → n = 0) := by have := nmin 1 n; rw [← hk0] at this; omega
  have HG := Lib.hid hG
  clear hG hk0 Hsp Hc1 Rn Hl1 h2 hmk
  go_wp2
  go_loopw [8] (fun i wr => ∃ k : Nat, i = .int .i64 (k : Int) ∧ k ≤ n ∧ (k = 0 → n = 0) ∧ Row wr G 3 (ints (List.replicate k x ++ List.replicate (n - k) 0)).toArray ∧ Below w1.heap.size w1 wr) (fun i _ => n - (intOf i).toNat)
  case atStart => exact ⟨k0, rfl, hk0n.1, hk0n.2, r2, b2⟩
  case round =>
    clear r2 b2 w2
    obtain ⟨k, rfl, hkn, hk0', hr, hb⟩ := hrel
    by_cases hlt : k < n
    · have hltI : (k : Int) < (n : Int) := by omega
      have hkpos : 0 < k := by rcases Nat.eq_zero_or_pos k with h | h
                               · have := hk0' h; omega
                               · exact h
      obtain ⟨m, hm⟩ : ∃ m, m = Nat.min k (n - k) := ⟨_, rfl⟩
      have hmm := nmin k (n - k)
      rw [← hm] at hmm
      obtain ⟨hmk', hmn, hmo⟩ := hmm
      have hmp : 0 < m := by omega
      clear hmo
      have Hm := Lib.hid hm
      clear hm hk0' hlt hk0n
      have hkc : (n : Int) - (k : Int) = ((n - k : Nat) : Int) := by omega
      have hcs : ∀ (j : Nat) (v : Value), (ints (List.replicate m x))[j]? = some v → wr.drew.cell? ((⟨G, 0, none⟩ : Addr).add j) = some v :=
        hr.drew.from_ 0 (cs := ints (List.replicate m x)) (fun j v hj => by
          have hlt : j < m := by have := (List.getElem?_eq_some_iff.1 hj).1; simpa [ints] using this
          rw [← hj]
          simp only [ints, List.map_replicate, List.getElem?_replicate, List.map_append, Nat.zero_add, List.getElem?_toArray]
          rw [if_pos hlt, List.getElem?_append_left (by simp; omega), List.getElem?_replicate, if_pos (by omega)])
      have Hcs := Lib.hid hcs
      have Hr := Lib.hid hr.drew
      have Hb := Lib.hid (below_drewN hb 1)
      have hsp := splice_rep k n m x (by omega)
      have Hsp := Lib.hid hsp
      have Hml : Hid ((ints (List.replicate m x)).length = Nat.min k (n - k)) := by show _ = _; rw [← Hm.out]; simp [ints]
      have hfit : k + (ints (List.replicate m x)).length ≤ (ints (List.replicate k x ++ List.replicate (n - k) 0)).length := by simp [ints]; omega
      have Hfit := Lib.hid hfit
      clear hcs hr hb hsp hfit
      go_wp2_with fail
      refine wp_region_held (S := fun _ => True) (by kernel_rfl) ?_
      simp only [List.size_toArray, List.length_cons, List.length_nil, Nat.reduceAdd, Array.replicate_succ, Array.replicate_zero, List.push_toArray, List.nil_append, List.cons_append]
      show wpAnyH _ _ _ _ _ _ _ _ wr.drew
      have hS : (fun _ : World => True) wr.drew := trivial
      have Hb : Hid (Below w1.heap.size w1 wr.drew) := Hb.out
      generalize wr.drew = wd at Hcs Hr hS Hb ⊢
      (refine takeH (i := 0) (v := .int .i64 (k : Int)) rfl (by kernel_rfl) (by kernel_rfl) (by kernel_rfl) (fun _ _ _ h => h) (yields_val rfl (fun W hW => by (go_simp))) (by assumption) ?_; simp only [Act.put, List.setIfInBounds_toArray, List.set_cons_zero, List.set_cons_succ])
      (refine takeH (i := 1) (v := .slice (some ⟨G, 0, none⟩) n n) rfl (by kernel_rfl) (by kernel_rfl) (by kernel_rfl) (fun _ _ _ h => h) (yields_val rfl (fun W hW => by (go_simp))) (by assumption) ?_; simp only [Act.put, List.setIfInBounds_toArray, List.set_cons_zero, List.set_cons_succ])
      (refine takeH (i := 2) (v := .int .i64 (k : Int)) rfl (by kernel_rfl) (by kernel_rfl) (by kernel_rfl) (fun _ _ _ h => h) (yields_val rfl (fun W hW => by (go_simp))) (by assumption) ?_; simp only [Act.put, List.setIfInBounds_toArray, List.set_cons_zero, List.set_cons_succ])
      (refine takeH (i := 4) (v := .slice (some ⟨G, 0, none⟩) n n) rfl (by kernel_rfl) (by kernel_rfl) (by kernel_rfl) (fun _ _ _ h => h) (yields_val rfl (fun W hW => by (go_simp))) (by assumption) ?_; simp only [Act.put, List.setIfInBounds_toArray, List.set_cons_zero, List.set_cons_succ])
      (refine takeH (i := 5) (v := .int .i64 (k : Int)) rfl (by kernel_rfl) (by kernel_rfl) (by kernel_rfl) (fun _ _ _ h => h) (yields_val rfl (fun W hW => by (go_simp))) (by assumption) ?_; simp only [Act.put, List.setIfInBounds_toArray, List.set_cons_zero, List.set_cons_succ])
      (refine takeH (i := 3) (v := .slice (some ⟨G, k, none⟩) (n - k) (n - k)) rfl (by kernel_rfl) (by kernel_rfl) (by kernel_rfl) (fun _ _ _ h => h) (yields_val rfl (fun W hW => by (go_simp; omega))) (by assumption) ?_; simp only [Act.put, List.setIfInBounds_toArray, List.set_cons_zero, List.set_cons_succ])
      (refine takeH (i := 6) (v := .slice (some ⟨G, 0, none⟩) k n) rfl (by kernel_rfl) (by kernel_rfl) (by kernel_rfl) (fun _ _ _ h => h) (yields_val rfl (fun W hW => by (go_simp))) (by assumption) ?_; simp only [Act.put, List.setIfInBounds_toArray, List.set_cons_zero, List.set_cons_succ])
      (refine wpAnyH_all (rs := [7]) (by kernel_rfl) (by simp) (fun i hi => ?_); obtain rfl : i = 7 := by simpa using hi)
      refine wpOp_plain rfl rfl (fun K2 hK2 => ?_)
      refine wp_res_gen (goInt (ints (List.replicate m x)).length) (w1 := _) (by exact run_exec_copy rfl (run_copy_row (P := Try.prog) wd 22 22 _ 3 G k (n - k) (n - k) ⟨G, 0, none⟩ k n _ 3 (ints (List.replicate m x)) Try.underlying22 rfl Hr.out Hml.out Hcs.out (by simpa using Hfit.out) (ints_one _))) ?_
      rw [show goInt (ints (List.replicate m x)).length = .int .i64 (m : Int) by simp [goInt, ints]]
      have r3 : Row (wd.setRow G ((ints (List.replicate k x ++ List.replicate (n - k) 0)).toArray.toList.take k ++ ints (List.replicate m x) ++ (ints (List.replicate k x ++ List.replicate (n - k) 0)).toArray.toList.drop (k + (ints (List.replicate m x)).length)).toArray) G 3 (ints (List.replicate (k + m) x ++ List.replicate (n - (k + m)) 0)).toArray := by
        rw [← Hsp.out, splice, ← List.append_assoc]; exact Hr.out.setRow _
      have b3 := below_setRow_ (g := G) Hb.out (Nat.le_of_eq HG.out.symm) ((ints (List.replicate k x ++ List.replicate (n - k) 0)).toArray.toList.take k ++ ints (List.replicate m x) ++ (ints (List.replicate k x ++ List.replicate (n - k) 0)).toArray.toList.drop (k + (ints (List.replicate m x)).length)).toArray
      refine hK2 _ _ ?_
      clear hK2 K2
      generalize wd.setRow G _ = we at r3 b3 ⊢
      simp only [Act.put, List.setIfInBounds_toArray, List.set_cons_zero, List.set_cons_succ]
      refine ⟨trivial, ?_⟩
      have hkm : IntKind.i64.wrap ((k : Int) + (m : Int)) = ((k + m : Nat) : Int) := by rw [IntWalk.i64_in _ (by omega)]; omega
      (refine takeH (i := 8) (v := .int .i64 ((k + m : Nat) : Int)) rfl (by kernel_rfl) (by kernel_rfl) (by kernel_rfl) (fun _ _ _ h => h) (yields_val rfl (fun W hW => by (go_simp; try exact hkm))) (by assumption) ?_; simp only [Act.put, List.setIfInBounds_toArray, List.set_cons_zero, List.set_cons_succ])
      (refine takeH (i := 9) (v := .int .i64 ((k + m : Nat) : Int)) rfl (by kernel_rfl) (by kernel_rfl) (by kernel_rfl) (fun _ _ _ h => h) (yields_val rfl (fun W hW => by (go_simp))) (by assumption) ?_; simp only [Act.put, List.setIfInBounds_toArray, List.set_cons_zero, List.set_cons_succ])
      refine wpAnyH_done (by kernel_rfl) ?_ _
      have R3 := Lib.hid r3
      have B3 := Lib.hid b3
      clear r3 b3 hkm Hr Hcs Hb Hsp Hml Hfit
      go_wp2
      go_roundw
      case rel => exact ⟨k + m, rfl, by omega, by omega, R3.out, B3.out⟩
      case measure => simp [intOf]; omega
    · obtain rfl : n = k := by omega
      have Hr := Lib.hid hr
      clear hlt hr
      go_wp2
      go_ret
      refine ⟨_, rfl, ?_, hb⟩
      have h1 := Hr.out
      rw [Nat.sub_self, List.replicate_zero, List.append_nil] at h1
      rw [List.length_replicate]
      exact ⟨by simp [ints], .inr ⟨G, n, _, rfl, by have := HG.out; omega, h1, Nat.le_refl _, by unfold maxLen; omega, by simp [ints], by simp [ints]⟩⟩
end Go.Proofs.Ytlglilmgklipdaa
