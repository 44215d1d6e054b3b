/- The walks over package zigzag, and over its reference: Zig, Put. -/
import Derived.Test.YtkdcelnlhhodlaaLebB
import Derived.Test.YtkdcelnlhhodlaaHold
namespace Go.Proofs.Ytkdcelnlhhodlaa
open Go.RowKit Go.Deep

theorem xor_max (u : Int) : bits .xor .u64 IntKind.u64.max (IntKind.u64.wrap (u * 2)) = 18446744073709551615 - IntKind.u64.wrap (u * 2) := by
  obtain ⟨m, hm, hlt⟩ : ∃ m : Nat, IntKind.u64.wrap (u * 2) = (m : Int) ∧ m < 18446744073709551616 := by
    rw [IntKind.wrap_u64]; exact ⟨((u * 2) % 18446744073709551616).toNat, by omega, by omega⟩
  rw [hm]
  show IntKind.u64.wrap ((BitVec.ofInt 64 IntKind.u64.max ^^^ BitVec.ofInt 64 (m : Int)).toNat : Int) = _
  have e1 : BitVec.ofInt 64 IntKind.u64.max = BitVec.allOnes 64 := by decide +kernel
  have e2 : (BitVec.ofInt 64 (m : Int)).toNat = m := by rw [BitVec.ofInt_natCast, BitVec.toNat_ofNat]; exact Nat.mod_eq_of_lt (by omega)
  rw [e1, BitVec.allOnes_xor, BitVec.toNat_not, e2, IntKind.wrap_u64]
  omega

theorem zig1_any (u : Int) (w : World) : Calls Try.prog 46 #[.int .u64 u] w fun e w' => e = .returned (.int .u64 (IntKind.u64.wrap (u * 2))) ∧ w = w' := by
  go_enter Try.func46, Try.ntmps46
  go_wp2
  go_ret
  exact ⟨rfl, rfl⟩
theorem zig2_any (u : Int) (w : World) : Calls Try.prog 47 #[.int .u64 u] w fun e w' => e = .returned (.int .u64 (bits .xor .u64 IntKind.u64.max (IntKind.u64.wrap (u * 2)))) ∧ w = w' := by
  have hsg : ¬ IntKind.u64.signed = true := by decide
  go_enter Try.func47, Try.ntmps47
  go_wp2
  go_ret
  exact ⟨rfl, rfl⟩
theorem zig_pos (n : Int) (hn : InI n) (h : 0 ≤ n) : IntKind.u64.wrap (IntKind.u64.wrap n * 2) = (zigN n : Int) := by
  simp only [IntKind.wrap_u64]; unfold zigN; rw [if_pos h]; have := hn.2; omega
theorem zig_neg (n : Int) (hn : InI n) (h : ¬ 0 ≤ n) : bits .xor .u64 IntKind.u64.max (IntKind.u64.wrap (IntKind.u64.wrap n * 2)) = (zigN n : Int) := by
  rw [xor_max]
  simp only [IntKind.wrap_u64]; unfold zigN; rw [if_neg h]; have := hn.1; omega
theorem ret_u64 {a b : Int} (h : a = b) : Ending.returned (.int .u64 a) = .returned (.int .u64 b) := by rw [h]
set_option maxRecDepth 100000 in
set_option maxHeartbeats 1000000 in
theorem zig_any (n : Int) (hn : InI n) (w : World) :
    Calls Try.prog 40 #[.int .i64 n] w fun e w' => e = .returned (.int .u64 (zigN n)) ∧ Below w.heap.size w w' := by
  have Hn := Lib.hid hn
  clear hn
  go_enter Try.func40, Try.ntmps40
  go_wp2_with (refine at_alloc _ rfl ?_)
  refine Stop.to ?_
  refine wpList_alloc_gen rfl 82 rfl _ _ rfl rfl ?_
  intro g w1 hg r1 b1
  go_wp2_with (refine at_store _ _ _ rfl ?_)
  refine Stop.to ?_
  refine wpList_store_gen rfl 82 _ _ rfl g #[.func (.func 46) #[] #[], .func (.func 47) #[] #[]] rfl rfl 82 _ r1 (by kernel_rfl) rfl (by kernel_rfl) ?_
  intro w2 r2 o2
  have b2 := below_only ((Below.refl w.heap.size w).trans (b1.mono hg)) o2 hg
  have c0 := r2.cellv (i := 0) (v := .func (.func 46) #[] #[]) rfl
  have c1 := r2.cellv (i := 1) (v := .func (.func 47) #[] #[]) rfl
  clear o2 r1 b1 hg
  by_cases h0 : 0 ≤ n
  · have hs : IntKind.u64.wrap n / 9223372036854775808 = 0 := by rw [IntKind.wrap_u64]; have := Hn.out.1; have := Hn.out.2; omega
    have H0 := Lib.hid h0
    clear h0
    go_wp2_with fail
    refine (zig1_any _ w2).mono ?_
    rintro e w3 ⟨rfl, rfl⟩
    go_wp2_with fail
    go_ret
    exact ⟨ret_u64 (zig_pos n Hn.out H0.out), b2⟩
  · have hs : IntKind.u64.wrap n / 9223372036854775808 = 1 := by rw [IntKind.wrap_u64]; have := Hn.out.1; have := Hn.out.2; omega
    have H0 := Lib.hid h0
    clear h0
    go_wp2_with fail
    refine (zig2_any _ w2).mono ?_
    rintro e w3 ⟨rfl, rfl⟩
    go_wp2_with fail
    go_ret
    exact ⟨ret_u64 (zig_neg n Hn.out (by have := H0.out; omega)), b2⟩

theorem zigPut_any (n : Int) (hn : InI n) (w : World) :
    Calls Try.prog 28 #[.int .i64 n] w fun e w' => e = .returned (.string ⟨(zz n).toArray⟩) ∧ Below w.heap.size w w' := by
  have Hn := Lib.hid hn
  clear hn
  go_enter Try.func28, Try.ntmps28
  go_wp2_with fail
  refine (zig_any n Hn.out w).mono ?_
  rintro e w1 ⟨rfl, b1⟩
  go_wp2_with fail
  refine (lebPut_any (zigN n) (zigN_lt Hn.out) w1).mono ?_
  rintro e w2 ⟨rfl, b2⟩
  go_wp2_with fail
  go_ret
  exact ⟨rfl, b1.trans (b2.mono b1.size)⟩

/-! The reference. -/
theorem refZig_pos (n : Int) (hn : InI n) (h : 0 ≤ n) : IntKind.u64.wrap (2 * IntKind.u64.wrap n) = (zigN n : Int) := by
  rw [Int.mul_comm]; exact zig_pos n hn h
theorem refZig_neg (n : Int) (hn : InI n) (h : n < 0) : IntKind.u64.wrap (IntKind.u64.wrap (2 * IntKind.u64.wrap (wrap64 (-wrap64 (n + 1)))) + 1) = (zigN n : Int) := by
  obtain ⟨h1, h2⟩ := hn
  have e1 : wrap64 (n + 1) = n + 1 := IntWalk.wrap64_in _ (by omega)
  rw [e1]
  have e2 : wrap64 (-(n + 1)) = -(n + 1) := IntWalk.wrap64_in _ (by omega)
  rw [e2]
  simp only [IntKind.wrap_u64]; unfold zigN; rw [if_neg (by omega)]; omega
set_option maxRecDepth 100000 in
set_option maxHeartbeats 1000000 in
theorem refZig_any (n : Int) (hn : InI n) (w : World) :
    Calls Try.prog 30 #[.int .i64 n] w fun e w' => e = .returned (.int .u64 (zigN n)) ∧ w = w' := by
  have Hn := Lib.hid hn
  clear hn
  by_cases h0 : 0 ≤ n
  · have H0 := Lib.hid h0
    go_enter Try.func30, Try.ntmps30
    go_wp2_with fail
    go_ret
    exact ⟨ret_u64 (refZig_pos n Hn.out H0.out), rfl⟩
  · have H0 := Lib.hid h0
    go_enter Try.func30, Try.ntmps30
    go_wp2_with fail
    go_ret
    exact ⟨ret_u64 (refZig_neg n Hn.out (by omega)), rfl⟩

theorem ret_leb1 (n : Nat) : (UInt8.ofNat n).toNat = n % 256 := by simp

theorem small_cell (n : Nat) (h : n < 128) : u8s [UInt8.ofNat n] = [.int .u8 (n : Int)] := by
  have : (UInt8.ofNat n).toNat = n := by simp; omega
  simp [u8s, this]
theorem refPut_small (f n : Nat) (hn : n < 128) (w : World) :
    Calls Try.prog 18 #[.int .u64 n] w fun e w' => e = .returned (.string ⟨(lebF (f + 1) n).toArray⟩) ∧ Below w.heap.size w w' := by
  have h128 : ((n : Nat) : Int) < 128 := by omega
  rw [lebF_small f n hn]
  have hconv := run_string_of_row (P := Try.prog) 57 9 5 5 Try.underlying57 Try.underlying5 Try.underlying9 (cap := 1) (Row.new w 5 #[.int .u8 (n : Int)]) [UInt8.ofNat n] (n := 1) rfl (fun j hj => by rw [small_cell n hn]; simp)
  clear hn
  go_enter Try.func18, Try.ntmps18
  go_wp2_with fail
  go_ret
  exact ⟨rfl, (Below.refl _ _).alloc (Nat.le_refl _) _⟩

theorem cat_one (c : UInt8) (l : List UInt8) : ((⟨#[c]⟩ : ByteArray) ++ ⟨l.toArray⟩) = ⟨(c :: l).toArray⟩ := by apply ByteArray.ext; simp
theorem big_cell (n : Nat) : u8s [UInt8.ofNat (128 + n % 128)] = [.int .u8 (128 + (n : Int) % 128)] := by
  have : (UInt8.ofNat (128 + n % 128)).toNat = 128 + n % 128 := by simp; omega
  simp [u8s, this]; omega

set_option maxRecDepth 100000 in
set_option maxHeartbeats 1000000 in
theorem refPut_any : ∀ (f n : Nat) (w : World), n < 128 ^ (f + 1) → n < 18446744073709551616 → f ≤ 9 →
    Calls Try.prog 18 #[.int .u64 n] w fun e w' => e = .returned (.string ⟨(lebF (f + 1) n).toArray⟩) ∧ Below w.heap.size w w' := by
  intro f
  induction f with
  | zero => exact fun n w hf _ _ => refPut_small 0 n (by omega) w
  | succ f ih =>
    intro n w hf hb hf9
    by_cases hn : n < 128
    · exact refPut_small (f + 1) n hn w
    rw [lebF_big (f + 1) n hn]
    have h128 : 128 ≤ ((n : Nat) : Int) := by omega
    have HI := Lib.hid (fun w => ih (n / 128) w (by rw [Nat.pow_succ] at hf; omega) (by omega) (by omega))
    have HB := Lib.hid hb
    have HF := Lib.hid hf9
    clear ih hf hn hb hf9
    go_enter Try.func18, Try.ntmps18
    go_wp2_with fail
    have hS : (fun W => Below w.heap.size w W) w.drew := St.drew (S := fun W => Below w.heap.size w W) (Below.refl _ _)
    refine wp_region_held (S := fun W => Below w.heap.size w W) (by kernel_rfl) ?_
    simp only [List.size_toArray, List.length_cons, List.length_nil, Nat.reduceAdd, Array.replicate_succ, Array.replicate_zero, List.push_toArray, List.nil_append, List.cons_append]
    show wpAnyH _ _ _ _ _ _ _ _ w.drew
    generalize w.drew = w3 at hS ⊢
    (refine takeH (i := 0) (v := .int .u64 (n : Int)) rfl (by kernel_rfl) (by kernel_rfl) (by kernel_rfl) (fun _ _ _ h => h) (yields_val rfl (fun W hW => by rfl)) (by assumption) ?_; simp only [Act.put, List.setIfInBounds_toArray, List.set_cons_zero, List.set_cons_succ])
    (refine takeH (i := 1) (v := .int .u64 ((n : Int) % 128)) rfl (by kernel_rfl) (by kernel_rfl) (by kernel_rfl) (fun _ _ _ h => h) (yields_val rfl (fun W hW => by go_simp; exact Int.tmod_eq_emod_of_nonneg (by omega))) (by assumption) ?_; simp only [Act.put, List.setIfInBounds_toArray, List.set_cons_zero, List.set_cons_succ])
    (refine takeH (i := 2) (v := .int .u64 (128 + (n : Int) % 128)) rfl (by kernel_rfl) (by kernel_rfl) (by kernel_rfl) (fun _ _ _ h => h) (yields_val rfl (fun W hW => by go_simp; rw [IntKind.wrap_u64]; omega)) (by assumption) ?_; simp only [Act.put, List.setIfInBounds_toArray, List.set_cons_zero, List.set_cons_succ])
    (refine takeH (i := 3) (v := .int .u8 (128 + (n : Int) % 128)) rfl (by kernel_rfl) (by kernel_rfl) (by kernel_rfl) (fun _ _ _ h => h) (yields_val rfl (fun W hW => by go_simp; rw [IntKind.wrap_u8]; omega)) (by assumption) ?_; simp only [Act.put, List.setIfInBounds_toArray, List.set_cons_zero, List.set_cons_succ])
    (refine takeH (i := 6) (v := .int .u64 (n : Int)) rfl (by kernel_rfl) (by kernel_rfl) (by kernel_rfl) (fun _ _ _ h => h) (yields_val rfl (fun W hW => by rfl)) (by assumption) ?_; simp only [Act.put, List.setIfInBounds_toArray, List.set_cons_zero, List.set_cons_succ])
    (refine takeH (i := 7) (v := .int .u64 ((n / 128 : Nat) : Int)) rfl (by kernel_rfl) (by kernel_rfl) (by kernel_rfl) (fun _ _ _ h => h) (yields_val rfl (fun W hW => by go_simp; rw [IntKind.wrap_u64]; have := HB.out; omega)) (by assumption) ?_; simp only [Act.put, List.setIfInBounds_toArray, List.set_cons_zero, List.set_cons_succ])
    have hmk : ∀ W : World, (Instr.buildSlice 57 1 #[(0, .int .u8 (128 + (n : Int) % 128))]).run Try.prog W = .ok (.slice (some ⟨W.heap.size, 0, none⟩) 1 1) (W.alloc (.cells #[.int .u8 (128 + (n : Int) % 128)] 5)) := fun W => by kernel_rfl
    have hcv : ∀ (W : World) (g : Nat), Row W g 5 #[.int .u8 (128 + (n : Int) % 128)] → (convert 57 9 (.slice (some ⟨g, 0, none⟩) 1 1)).run Try.prog W = .ok (.string ⟨#[UInt8.ofNat (128 + n % 128)]⟩) W := fun W g hr =>
      run_string_of_row (P := Try.prog) 57 9 5 5 Try.underlying57 Try.underlying5 Try.underlying9 (cap := 1) hr [UInt8.ofNat (128 + n % 128)] (n := 1) rfl (fun j hj => by rw [big_cell n]; simp)
    have hcell : Value.oneCell' (.int .u8 (128 + (n : Int) % 128)) = true := rfl
    refine wpAnyH_all (rs := [4, 8]) (by kernel_rfl) (by simp) (fun i hi => ?_)
    simp only [List.mem_cons, List.not_mem_nil, or_false] at hi
    rcases hi with rfl | rfl
    · refine wpOp_plain rfl rfl (fun K2 hK2 => ?_)
      refine wp_res_gen (.slice (some ⟨w3.heap.size, 0, none⟩) 1 1) (w1 := w3.alloc (.cells #[.int .u8 (128 + (n : Int) % 128)] 5)) (by go_simp) ?_
      refine hK2 _ _ ?_
      clear hK2 K2
      simp only [Act.put, List.setIfInBounds_toArray, List.set_cons_zero, List.set_cons_succ]
      have r4 := Row.new w3 5 #[.int .u8 (128 + (n : Int) % 128)]
      have b4 := hS.alloc hS.size (.cells #[.int .u8 (128 + (n : Int) % 128)] 5)
      generalize w3.alloc (.cells #[.int .u8 (128 + (n : Int) % 128)] 5) = w4 at r4 b4 ⊢
      refine ⟨b4, ?_⟩
      clear hS hmk
      refine wpAnyH_all (rs := [5, 8]) (by kernel_rfl) (by simp) (fun i hi => ?_)
      simp only [List.mem_cons, List.not_mem_nil, or_false] at hi
      rcases hi with rfl | rfl
      · refine wpOp_plain rfl rfl (fun K2 hK2 => ?_)
        refine wp_res_gen (.string ⟨#[UInt8.ofNat (128 + n % 128)]⟩) (w1 := w4) (by have := hcv _ _ r4; go_simp) ?_
        refine hK2 _ _ ?_
        clear hK2 K2
        simp only [Act.put, List.setIfInBounds_toArray, List.set_cons_zero, List.set_cons_succ]
        refine ⟨b4, ?_⟩
        (refine wpAnyH_all (rs := [8]) (by kernel_rfl) (by simp) (fun i hi => ?_); obtain rfl : i = 8 := by simpa using hi)
        refine wpOp_plain rfl rfl (fun K2 hK2 => ?_)
        refine wp_call_gen 18 #[.int .u64 ((n / 128 : Nat) : Int)] (w1 := w4) (by go_simp) ((HI.out w4).mono ?_)
        rintro e w5 ⟨rfl, b5⟩
        refine ⟨_, rfl, ?_⟩
        refine hK2 _ _ ?_
        clear hK2 K2
        simp only [Act.put, List.setIfInBounds_toArray, List.set_cons_zero, List.set_cons_succ]
        have b5 := b4.trans (b5.mono b4.size)
        refine ⟨b5, ?_⟩
        clear b4 r4 hcv
        (refine takeH (i := 9) (v := .string ⟨(UInt8.ofNat (128 + n % 128) :: lebF (f + 1) (n / 128)).toArray⟩) rfl (by kernel_rfl) (by kernel_rfl) (by kernel_rfl) (fun _ _ _ h => h) (yields_val rfl (fun W hW => by go_simp; rw [if_neg (by have := lebF_len (f + 1) (n / 128); have := HF.out; omega), cat_one])) (by assumption) ?_; simp only [Act.put, List.setIfInBounds_toArray, List.set_cons_zero, List.set_cons_succ])
        (refine takeH (i := 10) (v := .string ⟨(UInt8.ofNat (128 + n % 128) :: lebF (f + 1) (n / 128)).toArray⟩) rfl (by kernel_rfl) (by kernel_rfl) (by kernel_rfl) (fun _ _ _ h => h) (yields_val rfl (fun W hW => by rfl)) (by assumption) ?_; simp only [Act.put, List.setIfInBounds_toArray, List.set_cons_zero, List.set_cons_succ])
        refine wpAnyH_done (by kernel_rfl) ?_ _
        go_wp2_with fail
        go_ret
        exact ⟨rfl, by assumption⟩
      · refine wpOp_plain rfl rfl (fun K2 hK2 => ?_)
        refine wp_call_gen 18 #[.int .u64 ((n / 128 : Nat) : Int)] (w1 := w4) (by go_simp) ((HI.out w4).mono ?_)
        rintro e w5 ⟨rfl, b5⟩
        refine ⟨_, rfl, ?_⟩
        refine hK2 _ _ ?_
        clear hK2 K2
        simp only [Act.put, List.setIfInBounds_toArray, List.set_cons_zero, List.set_cons_succ]
        have r5 := r4.below b5 r4.lt
        have b5 := b4.trans (b5.mono b4.size)
        refine ⟨b5, ?_⟩
        clear b4 r4
        (refine wpAnyH_all (rs := [5]) (by kernel_rfl) (by simp) (fun i hi => ?_); obtain rfl : i = 5 := by simpa using hi)
        refine wpOp_plain rfl rfl (fun K2 hK2 => ?_)
        refine wp_res_gen (.string ⟨#[UInt8.ofNat (128 + n % 128)]⟩) (w1 := w5) (by have := hcv _ _ r5; go_simp) ?_
        refine hK2 _ _ ?_
        clear hK2 K2
        simp only [Act.put, List.setIfInBounds_toArray, List.set_cons_zero, List.set_cons_succ]
        refine ⟨b5, ?_⟩
        clear r5 hcv
        (refine takeH (i := 9) (v := .string ⟨(UInt8.ofNat (128 + n % 128) :: lebF (f + 1) (n / 128)).toArray⟩) rfl (by kernel_rfl) (by kernel_rfl) (by kernel_rfl) (fun _ _ _ h => h) (yields_val rfl (fun W hW => by go_simp; rw [if_neg (by have := lebF_len (f + 1) (n / 128); have := HF.out; omega), cat_one])) (by assumption) ?_; simp only [Act.put, List.setIfInBounds_toArray, List.set_cons_zero, List.set_cons_succ])
        (refine takeH (i := 10) (v := .string ⟨(UInt8.ofNat (128 + n % 128) :: lebF (f + 1) (n / 128)).toArray⟩) rfl (by kernel_rfl) (by kernel_rfl) (by kernel_rfl) (fun _ _ _ h => h) (yields_val rfl (fun W hW => by rfl)) (by assumption) ?_; simp only [Act.put, List.setIfInBounds_toArray, List.set_cons_zero, List.set_cons_succ])
        refine wpAnyH_done (by kernel_rfl) ?_ _
        go_wp2_with fail
        go_ret
        exact ⟨rfl, by assumption⟩
    · refine wpOp_plain rfl rfl (fun K2 hK2 => ?_)
      refine wp_call_gen 18 #[.int .u64 ((n / 128 : Nat) : Int)] (w1 := w3) (by go_simp) ((HI.out w3).mono ?_)
      rintro e w4 ⟨rfl, b4⟩
      refine ⟨_, rfl, ?_⟩
      refine hK2 _ _ ?_
      clear hK2 K2
      simp only [Act.put, List.setIfInBounds_toArray, List.set_cons_zero, List.set_cons_succ]
      have b4 := hS.trans (b4.mono hS.size)
      refine ⟨b4, ?_⟩
      clear hS
      (refine wpAnyH_all (rs := [4]) (by kernel_rfl) (by simp) (fun i hi => ?_); obtain rfl : i = 4 := by simpa using hi)
      refine wpOp_plain rfl rfl (fun K2 hK2 => ?_)
      refine wp_res_gen (.slice (some ⟨w4.heap.size, 0, none⟩) 1 1) (w1 := w4.alloc (.cells #[.int .u8 (128 + (n : Int) % 128)] 5)) (by go_simp) ?_
      refine hK2 _ _ ?_
      clear hK2 K2
      simp only [Act.put, List.setIfInBounds_toArray, List.set_cons_zero, List.set_cons_succ]
      have r5 := Row.new w4 5 #[.int .u8 (128 + (n : Int) % 128)]
      have b5 := b4.alloc b4.size (.cells #[.int .u8 (128 + (n : Int) % 128)] 5)
      generalize w4.alloc (.cells #[.int .u8 (128 + (n : Int) % 128)] 5) = w5 at r5 b5 ⊢
      refine ⟨b5, ?_⟩
      clear b4 hmk
      (refine wpAnyH_all (rs := [5]) (by kernel_rfl) (by simp) (fun i hi => ?_); obtain rfl : i = 5 := by simpa using hi)
      refine wpOp_plain rfl rfl (fun K2 hK2 => ?_)
      refine wp_res_gen (.string ⟨#[UInt8.ofNat (128 + n % 128)]⟩) (w1 := w5) (by have := hcv _ _ r5; go_simp) ?_
      refine hK2 _ _ ?_
      clear hK2 K2
      simp only [Act.put, List.setIfInBounds_toArray, List.set_cons_zero, List.set_cons_succ]
      refine ⟨b5, ?_⟩
      clear r5 hcv
      (refine takeH (i := 9) (v := .string ⟨(UInt8.ofNat (128 + n % 128) :: lebF (f + 1) (n / 128)).toArray⟩) rfl (by kernel_rfl) (by kernel_rfl) (by kernel_rfl) (fun _ _ _ h => h) (yields_val rfl (fun W hW => by go_simp; rw [if_neg (by have := lebF_len (f + 1) (n / 128); have := HF.out; omega), cat_one])) (by assumption) ?_; simp only [Act.put, List.setIfInBounds_toArray, List.set_cons_zero, List.set_cons_succ])
      (refine takeH (i := 10) (v := .string ⟨(UInt8.ofNat (128 + n % 128) :: lebF (f + 1) (n / 128)).toArray⟩) rfl (by kernel_rfl) (by kernel_rfl) (by kernel_rfl) (fun _ _ _ h => h) (yields_val rfl (fun W hW => by rfl)) (by assumption) ?_; simp only [Act.put, List.setIfInBounds_toArray, List.set_cons_zero, List.set_cons_succ])
      refine wpAnyH_done (by kernel_rfl) ?_ _
      go_wp2_with fail
      go_ret
      exact ⟨rfl, by assumption⟩

theorem lebL_ref (n : Nat) (h : n < 18446744073709551616) (w : World) :
    Calls Try.prog 18 #[.int .u64 n] w fun e w' => e = .returned (.string ⟨(lebL n).toArray⟩) ∧ Below w.heap.size w w' :=
  refPut_any 9 n w (by have e : (128 : Nat) ^ (9 + 1) = 1180591620717411303424 := by decide
                       rw [e]; omega) h (Nat.le_refl _)
theorem refZPut_any (n : Int) (hn : InI n) (w : World) :
    Calls Try.prog 19 #[.int .i64 n] w fun e w' => e = .returned (.string ⟨(zz n).toArray⟩) ∧ Below w.heap.size w w' := by
  have Hn := Lib.hid hn
  clear hn
  go_enter Try.func19, Try.ntmps19
  go_wp2_with fail
  refine (refZig_any n Hn.out w).mono ?_
  rintro e w1 ⟨rfl, rfl⟩
  go_wp2_with fail
  refine (lebL_ref (zigN n) (zigN_lt Hn.out) w).mono ?_
  rintro e w2 ⟨rfl, b2⟩
  go_wp2_with fail
  go_ret
  exact ⟨rfl, b2⟩
end Go.Proofs.Ytkdcelnlhhodlaa
