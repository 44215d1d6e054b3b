/- Lemmas for CmAll. -/
import Derived.Test.YtcgglolckkeeiaaGreatZm27
import Derived.Test.YtcgglolckkeeiaaGreatZm1
import Derived.Test.YtcgglolckkeeiaaGreatZm8
namespace Go.Proofs.YtcgglolckkeeiaaGreat
set_option linter.unusedVariables false
open Go.RowKit Go.Deep
theorem xor_max (u : Int) : bits .xor .u64 IntKind.u64.max (IntKind.u64.wrap (u * 2)) = 18446744073709551615 - IntKind.u64.wrap (u * 2) := by
 obtain ⟨m, hm, hlt⟩ : ∃ m : Nat, IntKind.u64.wrap (u * 2) = (m : Int) ∧ m < 18446744073709551616 := by
  rw [IntKind.wrap_u64]; exact ⟨((u * 2) % 18446744073709551616).toNat, by omega, by omega⟩
 rw [hm]
 show IntKind.u64.wrap ((BitVec.ofInt 64 IntKind.u64.max ^^^ BitVec.ofInt 64 (m : Int)).toNat : Int) = _
 have e1 : BitVec.ofInt 64 IntKind.u64.max = BitVec.allOnes 64 := by decide +kernel
 have e2 : (BitVec.ofInt 64 (m : Int)).toNat = m := by rw [BitVec.ofInt_natCast, BitVec.toNat_ofNat]; exact Nat.mod_eq_of_lt (by omega)
 rw [e1, BitVec.allOnes_xor, BitVec.toNat_not, e2, IntKind.wrap_u64]
 omega
theorem zig1_any (u : Int) (w : World) : Calls Tryz.prog 205 #[.int .u64 u] w fun e w' => e = .returned (.int .u64 (IntKind.u64.wrap (u * 2))) ∧ w = w' := by
 go_enter Tryz.func205, Tryz.ntmps205
 go_wp2
 go_ret
 exact ⟨rfl, rfl⟩
theorem zig2_any (u : Int) (w : World) : Calls Tryz.prog 206 #[.int .u64 u] w fun e w' => e = .returned (.int .u64 (bits .xor .u64 IntKind.u64.max (IntKind.u64.wrap (u * 2)))) ∧ w = w' := by
 have hsg : ¬ IntKind.u64.signed = true := by decide
 go_enter Tryz.func206, Tryz.ntmps206
 go_wp2
 go_ret
 exact ⟨rfl, rfl⟩
theorem zig_pos (n : Int) (hn : InI n) (h : 0 ≤ n) : IntKind.u64.wrap (IntKind.u64.wrap n * 2) = (zigN n : Int) := by
 simp only [IntKind.wrap_u64]; unfold zigN; rw [if_pos h]; have := hn.2; omega
theorem zig_neg (n : Int) (hn : InI n) (h : ¬ 0 ≤ n) : bits .xor .u64 IntKind.u64.max (IntKind.u64.wrap (IntKind.u64.wrap n * 2)) = (zigN n : Int) := by
 rw [xor_max]
 simp only [IntKind.wrap_u64]; unfold zigN; rw [if_neg h]; have := hn.1; omega
theorem ret_u64 {a b : Int} (h : a = b) : Ending.returned (.int .u64 a) = .returned (.int .u64 b) := by rw [h]
set_option maxRecDepth 100000 in
set_option maxHeartbeats 1000000 in
theorem zig_any (n : Int) (hn : InI n) (w : World) :
 Calls Tryz.prog 192 #[.int .i64 n] w fun e w' => e = .returned (.int .u64 (zigN n)) ∧ Below w.heap.size w w' := by
 have Hn := Lib.hid hn
 clear hn
 go_enter Tryz.func192, Tryz.ntmps192
 go_wp2_with (refine at_alloc _ rfl ?_)
 refine Stop.to ?_
 refine wpList_alloc_gen rfl 260 rfl _ _ rfl rfl ?_
 intro g w1 hg r1 b1
 go_wp2_with (refine at_store _ _ _ rfl ?_)
 refine Stop.to ?_
 refine wpList_store_gen rfl 260 _ _ rfl g #[.func (.func 205) #[] #[], .func (.func 206) #[] #[]] rfl rfl 260 _ r1 (by kernel_rfl) rfl (by kernel_rfl) ?_
 intro w2 r2 o2
 have b2 := below_only ((Below.refl w.heap.size w).trans (b1.mono hg)) o2 hg
 have c0 := r2.cellv (i := 0) (v := .func (.func 205) #[] #[]) rfl
 have c1 := r2.cellv (i := 1) (v := .func (.func 206) #[] #[]) rfl
 clear o2 r1 b1 hg
 by_cases h0 : 0 ≤ n
 · have hs : IntKind.u64.wrap n / 9223372036854775808 = 0 := by rw [IntKind.wrap_u64]; have := Hn.out.1; have := Hn.out.2; omega
   have H0 := Lib.hid h0
   clear h0
   go_wp2_with fail
   refine (zig1_any _ w2).mono ?_
   rintro e w3 ⟨rfl, rfl⟩
   go_wp2_with fail
   go_ret
   exact ⟨ret_u64 (zig_pos n Hn.out H0.out), b2⟩
 · have hs : IntKind.u64.wrap n / 9223372036854775808 = 1 := by rw [IntKind.wrap_u64]; have := Hn.out.1; have := Hn.out.2; omega
   have H0 := Lib.hid h0
   clear h0
   go_wp2_with fail
   refine (zig2_any _ w2).mono ?_
   rintro e w3 ⟨rfl, rfl⟩
   go_wp2_with fail
   go_ret
   exact ⟨ret_u64 (zig_neg n Hn.out (by have := H0.out; omega)), b2⟩
theorem zigPut_any (n : Int) (hn : InI n) (w : World) :
 Calls Tryz.prog 171 #[.int .i64 n] w fun e w' => e = .returned (.string ⟨(zz n).toArray⟩) ∧ Below w.heap.size w w' := by
 have Hn := Lib.hid hn
 clear hn
 go_enter Tryz.func171, Tryz.ntmps171
 go_wp2_with fail
 refine (zig_any n Hn.out w).mono ?_
 rintro e w1 ⟨rfl, b1⟩
 go_wp2_with fail
 refine (lebPut_any (zigN n) (zigN_lt Hn.out) w1).mono ?_
 rintro e w2 ⟨rfl, b2⟩
 go_wp2_with fail
 go_ret
 exact ⟨rfl, b1.trans (b2.mono b1.size)⟩
end Go.Proofs.YtcgglolckkeeiaaGreat
namespace Go.Proofs.YtcgglolckkeeiaaGreat
set_option linter.unusedVariables false
open Go.RowKit Go.Deep
def kOf (t : List UInt8) : Nat := (lebK 10 t).getD 0
theorem getL_ref (t : List UInt8) : getL t = if kOf t = 0 then (if t.length < 10 then (2, 0, 0) else (3, 0, 0)) else (if lebL (lebV (t.take (kOf t)) % 18446744073709551616) = t.take (kOf t) then (0, lebV (t.take (kOf t)) % 18446744073709551616, kOf t) else (3, 0, 0)) := by
 unfold getL kOf
 cases hk : lebK 10 t with
 | none => simp
 | some k =>
  obtain ⟨_, _, _, h⟩ := lebK_some hk
  simp only [Option.getD_some]
  rw [if_neg (by omega : ¬ k = 0)]
theorem kOf_le (t : List UInt8) : kOf t ≤ t.length ∧ kOf t ≤ 10 := by
 unfold kOf
 cases hk : lebK 10 t with
 | none => simp
 | some k => obtain ⟨_, h1, h2, _⟩ := lebK_some hk; exact ⟨h2, h1⟩
theorem str_ext (s : List UInt8) (i j : Nat) : (⟨s.toArray⟩ : ByteArray).extract i j = ⟨((s.drop i).take (j - i)).toArray⟩ := by
 apply ByteArray.ext
 rw [ByteArray.data_extract]
 simp [List.extract_toArray, List.extract_eq_take_drop]
end Go.Proofs.YtcgglolckkeeiaaGreat
namespace Go.Proofs.YtcgglolckkeeiaaGreat
set_option linter.unusedVariables false
open Go.RowKit Go.Deep
structure Rs where
 pl : Nat
 er : Int
def RdO (W : World) (g : Nat) (s : List UInt8) (r : Rs) : Prop := Row W g 128 #[.string ⟨s.toArray⟩, .int .i64 (r.pl : Int), .int .i64 r.er]
theorem RdO.go {W W' : World} {g : Nat} {s : List UInt8} {r : Rs} (h : RdO W g s r) (b : Below W.heap.size W W') : RdO W' g s r := Row.below h b (Row.lt h)
instance St.rdo {g : Nat} {s : List UInt8} {r : Rs} : St (fun W => RdO W g s r) := ⟨fun h b => h.go b⟩
def Rs.move (r : Rs) (to : Nat) (e : Int) : Rs := if r.er = 0 then (if e = 0 then ⟨to, 0⟩ else ⟨r.pl, e⟩) else r
theorem move_no {r : Rs} (h : ¬ r.er = 0) (to : Nat) (e : Int) : r.move to e = r := if_neg h
theorem move_ok {r : Rs} (h : r.er = 0) (to : Nat) : r.move to 0 = ⟨to, 0⟩ := by unfold Rs.move; rw [if_pos h, if_pos rfl]
theorem move_bad {r : Rs} (h : r.er = 0) (to : Nat) {e : Int} (he : ¬ e = 0) : r.move to e = ⟨r.pl, e⟩ := by unfold Rs.move; rw [if_pos h, if_neg he]
theorem Only.trans' {g : Nat} {a b c : World} (h : Only g a b) (k : Only g b c) : Only g a c := ⟨k.os.trans h.os, k.tape.trans h.tape, k.output.trans h.output, k.size.trans h.size, fun i hi => (k.block i hi).trans (h.block i hi)⟩
theorem Only.refl' (g : Nat) (w : World) : Only g w w := ⟨rfl, rfl, rfl, rfl, fun _ _ => rfl⟩
set_option maxRecDepth 100000 in
set_option maxHeartbeats 2000000 in
theorem move_any (g : Nat) (s : List UInt8) (r : Rs) (to : Nat) (er : Int) (w : World) (h : RdO w g s r) :
 Calls Tryz.prog 139 #[.pointer (some ⟨g, 0, none⟩), .int .i64 (to : Int), .int .i64 er] w fun e w' => e = .returned (.bool (decide ((r.move to er).er = 0))) ∧ RdO w' g s (r.move to er) ∧ Only g w w' := by
 obtain ⟨pl, e0⟩ := r
 have hc1 := Row.cellv h (i := 1) (v := .int .i64 (pl : Int)) rfl
 have hc2 := Row.cellv h (i := 2) (v := .int .i64 e0) rfl
 have hf1 := Row.free h 1
 have hf2 := Row.free h 2
 by_cases h0 : e0 = 0
 · subst h0
   by_cases he : er = 0
   · subst he
     go_enter Tryz.func139, Tryz.ntmps139
     go_wp2
     go_ret
     exact ⟨by simp [Rs.move], by rw [move_ok rfl]; exact (Row.set (Row.set h 2 (.int .i64 0)) 1 (.int .i64 (to : Int))), (only_set _ _ _ _).trans' (only_set _ _ _ _)⟩
   · go_enter Tryz.func139, Tryz.ntmps139
     go_wp2
     go_ret
     exact ⟨by simp [Rs.move, he], by rw [move_bad rfl _ he]; exact (Row.set h 2 (.int .i64 er)), only_set _ _ _ _⟩
 · rw [move_no h0]
   go_enter Tryz.func139, Tryz.ntmps139
   go_wp2
   go_ret
   exact ⟨by simp [h0], h, Only.refl' _ _⟩
def Rs.step {α : Type} (r : Rs) (p : Int × Nat × α) (z : α) : α × Rs := (if (r.move p.2.1 p.1).er = 0 then p.2.2 else z, r.move p.2.1 p.1)
set_option maxRecDepth 100000 in
set_option maxHeartbeats 2000000 in
theorem tookI_any (g : Nat) (s : List UInt8) (r : Rs) (x : Int) (to : Nat) (er : Int) (w : World) (h : RdO w g s r) :
 Calls Tryz.prog 138 #[.func (.func 139) #[.pointer (some ⟨g, 0, none⟩)] #[], .int .i64 x, .int .i64 (to : Int), .int .i64 er] w fun e w' => e = .returned (.int .i64 (r.step (er, to, x) 0).1) ∧ RdO w' g s (r.step (er, to, x) 0).2 ∧ Only g w w' := by
 have HM := Lib.hid (move_any g s r to er w h)
 clear h
 go_enter Tryz.func138, Tryz.ntmps138
 go_wp2_with fail
 refine HM.out.mono ?_
 rintro e w1 ⟨rfl, h1, o1⟩
 by_cases hc : (r.move to er).er = 0
 · have hd : (decide ((r.move to er).er = 0)) = true := by simpa using hc
   go_wp2_with fail
   go_ret
   exact ⟨by simp [Rs.step, hc], h1, o1⟩
 · have hd : (decide ((r.move to er).er = 0)) = false := by simpa using hc
   go_wp2_with fail
   go_ret
   exact ⟨by simp [Rs.step, hc], h1, o1⟩
set_option maxRecDepth 100000 in
set_option maxHeartbeats 2000000 in
theorem tookS_any (g : Nat) (s : List UInt8) (r : Rs) (x : List UInt8) (to : Nat) (er : Int) (w : World) (h : RdO w g s r) :
 Calls Tryz.prog 174 #[.func (.func 139) #[.pointer (some ⟨g, 0, none⟩)] #[], .string ⟨x.toArray⟩, .int .i64 (to : Int), .int .i64 er] w fun e w' => e = .returned (.string ⟨(r.step (er, to, x) []).1.toArray⟩) ∧ RdO w' g s (r.step (er, to, x) []).2 ∧ Only g w w' := by
 have HM := Lib.hid (move_any g s r to er w h)
 clear h
 go_enter Tryz.func174, Tryz.ntmps174
 go_wp2_with fail
 refine HM.out.mono ?_
 rintro e w1 ⟨rfl, h1, o1⟩
 by_cases hc : (r.move to er).er = 0
 · have hd : (decide ((r.move to er).er = 0)) = true := by simpa using hc
   go_wp2_with fail
   go_ret
   exact ⟨by simp [Rs.step, hc], h1, o1⟩
 · have hd : (decide ((r.move to er).er = 0)) = false := by simpa using hc
   go_wp2_with fail
   go_ret
   exact ⟨by simp [Rs.step, hc], h1, o1⟩
theorem getL_shape (t : List UInt8) : ((getL t).1 = 0 ∧ (getL t).2.1 < 18446744073709551616) ∨ ((getL t).1 ≠ 0 ∧ (getL t).2.1 = 0 ∧ (getL t).2.2 = 0) := by
 unfold getL
 split
 · split <;> exact .inr ⟨by decide, rfl, rfl⟩
 · split
   · exact .inl ⟨rfl, Nat.mod_lt _ (by decide)⟩
   · exact .inr ⟨by decide, rfl, rfl⟩
theorem getL_len (t : List UInt8) : (getL t).2.2 ≤ t.length := by
 have := getL_ref t
 have h := kOf_le t
 rw [this]
 split
 · split <;> simp
 · split <;> simp <;> omega
def zagZ (n : Nat) : Int := if n % 2 = 0 then ((n / 2 : Nat) : Int) else -((n / 2 : Nat) : Int) - 1
theorem zag_in {n : Nat} (h : n < 18446744073709551616) : InI (zagZ n) := by
 unfold zagZ InI; split <;> omega
theorem zag_zig {n : Int} (h : InI n) : zagZ (zigN n) = n := by
 unfold zagZ zigN; unfold InI at h
 by_cases h0 : 0 ≤ n
 · rw [if_pos h0, if_pos (by omega)]; omega
 · rw [if_neg h0, if_neg (by omega)]; omega
theorem and_one (n : Nat) (h : n < 18446744073709551616) : bits .and .u64 (n : Int) 1 = ((n % 2 : Nat) : Int) := by
 show IntKind.u64.wrap ((BitVec.ofInt 64 (n : Int) &&& BitVec.ofInt 64 1).toNat : Int) = _
 have e1 : (BitVec.ofInt 64 (n : Int) &&& BitVec.ofInt 64 1).toNat = n % 2 := by
  rw [BitVec.toNat_and, BitVec.ofInt_natCast, BitVec.toNat_ofNat, Nat.mod_eq_of_lt (by omega), show (BitVec.ofInt 64 1).toNat = 1 by decide +kernel, Nat.and_one_is_mod]
 rw [e1, IntKind.wrap_u64]; omega
theorem xor_zero (m : Nat) (h : m < 9223372036854775808) : bits .xor .i64 (m : Int) 0 = (m : Int) := by
 show IntKind.i64.wrap ((BitVec.ofInt 64 (m : Int) ^^^ BitVec.ofInt 64 0).toNat : Int) = _
 have e1 : (BitVec.ofInt 64 (m : Int) ^^^ BitVec.ofInt 64 0).toNat = m := by
  rw [show BitVec.ofInt 64 0 = 0#64 by decide +kernel, BitVec.xor_zero, BitVec.ofInt_natCast, BitVec.toNat_ofNat, Nat.mod_eq_of_lt (by omega)]
 rw [e1, IntKind.wrap_i64]; omega
theorem xor_ones (m : Nat) (h : m < 9223372036854775808) : bits .xor .i64 (m : Int) (-1) = -(m : Int) - 1 := by
 show IntKind.i64.wrap ((BitVec.ofInt 64 (m : Int) ^^^ BitVec.ofInt 64 (-1)).toNat : Int) = _
 have e1 : (BitVec.ofInt 64 (m : Int) ^^^ BitVec.ofInt 64 (-1)).toNat = 18446744073709551615 - m := by
  rw [show BitVec.ofInt 64 (-1) = BitVec.allOnes 64 by decide +kernel, BitVec.xor_allOnes, BitVec.toNat_not, BitVec.ofInt_natCast, BitVec.toNat_ofNat, Nat.mod_eq_of_lt (by omega)]
 rw [e1, IntKind.wrap_i64]; omega
theorem ret_i64 {a b : Int} (h : a = b) : Ending.returned (.int .i64 a) = .returned (.int .i64 b) := by rw [h]
set_option maxRecDepth 100000 in
set_option maxHeartbeats 2000000 in
theorem zag_any (n : Nat) (hn : n < 18446744073709551616) (w : World) :
 Calls Tryz.prog 193 #[.int .u64 (n : Int)] w fun e w' => e = .returned (.int .i64 (zagZ n)) ∧ w = w' := by
 have ha := and_one n hn
 have Hn := Lib.hid hn
 clear hn
 by_cases h2 : n % 2 = 0
 · rw [h2] at ha
   have H2 := Lib.hid h2
   clear h2
   go_enter Tryz.func193, Tryz.ntmps193
   go_wp2
   go_ret
   refine ⟨ret_i64 ?_, rfl⟩
   have hx := xor_zero (n / 2) (by have := Hn.out; omega)
   have e : wrap64 ((n : Int) / 2) = ((n / 2 : Nat) : Int) := by rw [IntWalk.wrap64_in _ (by have := Hn.out; omega)]; omega
   rw [e, hx, zagZ, if_pos H2.out]
 · have h1 : n % 2 = 1 := by omega
   rw [h1] at ha
   have H2 := Lib.hid h1
   clear h2 h1
   go_enter Tryz.func193, Tryz.ntmps193
   go_wp2
   go_ret
   refine ⟨ret_i64 ?_, rfl⟩
   have hx := xor_ones (n / 2) (by have := Hn.out; omega)
   have e : wrap64 ((n : Int) / 2) = ((n / 2 : Nat) : Int) := by rw [IntWalk.wrap64_in _ (by have := Hn.out; omega)]; omega
   rw [e, hx, zagZ, if_neg (by have := H2.out; omega)]
set_option maxRecDepth 100000 in
set_option maxHeartbeats 2000000 in
theorem zigGet_any (s : List UInt8) (at_ : Nat) (ha : at_ ≤ s.length) (hs : s.length ≤ 1000000) (w : World) :
 Calls Tryz.prog 176 #[.string ⟨s.toArray⟩, .int .i64 (at_ : Int)] w fun e w' => e = .returned (.tuple #[.int .i64 (zagZ (getL (s.drop at_)).2.1), .int .i64 ((at_ + (getL (s.drop at_)).2.2 : Nat) : Int), .int .i64 (getL (s.drop at_)).1]) ∧ w = w' := by
 have HM := Lib.hid (lebGet_any s at_ ha hs w)
 clear ha hs
 have hg := getL_shape (s.drop at_)
 obtain ⟨⟨er, n, k⟩, hgl⟩ : ∃ p, p = getL (s.drop at_) := ⟨_, rfl⟩
 rw [← hgl] at hg HM ⊢
 clear hgl
 have Hg := Lib.hid hg
 clear hg
 go_enter Tryz.func176, Tryz.ntmps176
 go_wp2_with fail
 refine HM.out.mono ?_
 rintro e w1 ⟨rfl, rfl⟩
 clear HM
 have hg := Hg.out
 clear Hg
 rcases hg with ⟨h0, h1⟩ | ⟨h0, h1, h2⟩
 · subst h0
   go_wp2_with fail
   refine (zag_any n h1 w).mono ?_
   rintro e w2 ⟨rfl, rfl⟩
   go_wp2_with fail
   go_ret3
   exact ⟨rfl, rfl⟩
 · subst h1 h2
   go_wp2_with fail
   go_ret3
   exact ⟨by simp [zagZ], rfl⟩
end Go.Proofs.YtcgglolckkeeiaaGreat
namespace Go.Proofs.YtcgglolckkeeiaaGreat
set_option linter.unusedVariables false
open Go.RowKit Go.Deep
structure RdEff (g : Nat) (w w' : World) : Prop where
 os : w'.os = w.os
 tape : w'.tape = w.tape
 output : w'.output = w.output
 size : w.heap.size ≤ w'.heap.size
 block : ∀ k, k < w.heap.size → k ≠ g → w'.heap[k]? = w.heap[k]?
theorem RdEff.of_below {g : Nat} {w w' : World} (b : Below w.heap.size w w') : RdEff g w w' := ⟨b.os, b.tape, b.output, b.size, fun k hk _ => b.block k hk⟩
theorem RdEff.of_only {g : Nat} {w w' : World} (o : Only g w w') : RdEff g w w' := ⟨o.os, o.tape, o.output, Nat.le_of_eq o.size.symm, fun k _ hg => o.block k hg⟩
theorem RdEff.refl (g : Nat) (w : World) : RdEff g w w := ⟨rfl, rfl, rfl, Nat.le_refl _, fun _ _ _ => rfl⟩
theorem RdEff.trans {g : Nat} {a b c : World} (h : RdEff g a b) (k : RdEff g b c) : RdEff g a c :=
 ⟨k.os.trans h.os, k.tape.trans h.tape, k.output.trans h.output, Nat.le_trans h.size k.size, fun i hi hg => (k.block i (Nat.lt_of_lt_of_le hi h.size) hg).trans (h.block i hi hg)⟩
theorem RdEff.below {g B : Nat} {w w' : World} (h : RdEff g w w') (hB : B ≤ g) (hs : B ≤ w.heap.size) : Below B w w' :=
 ⟨h.os, h.tape, h.output, h.size, fun k hk => h.block k (by omega) (by omega)⟩
theorem RdEff.row {g k : Nat} {w w' : World} {t : TypeId} {cs : Array Value} (h : RdEff g w w') (hr : Row w k t cs) (hk : k ≠ g) : Row w' k t cs := (h.block k hr.lt hk).trans hr
def countP (s : List UInt8) (pl : Nat) (most : Int) : Int × Nat × Nat := (if (getL (s.drop pl)).1 = 0 ∧ most < ((getL (s.drop pl)).2.1 : Int) then 4 else (getL (s.drop pl)).1, pl + (getL (s.drop pl)).2.2, (getL (s.drop pl)).2.1)
set_option maxRecDepth 100000 in
set_option maxHeartbeats 4000000 in
theorem count_any (g : Nat) (s : List UInt8) (r : Rs) (most : Int) (hp : r.pl ≤ s.length) (hs : s.length ≤ 1000000) (h0 : 0 ≤ most) (h1 : most ≤ 1048576) (w : World) (h : RdO w g s r) :
 Calls Tryz.prog 137 #[.pointer (some ⟨g, 0, none⟩), .int .i64 most] w fun e w' => e = .returned (.tuple #[.int .i64 (wrap64 ((countP s r.pl most).2.2 : Int)), .int .i64 ((countP s r.pl most).2.1 : Int), .int .i64 (countP s r.pl most).1]) ∧ RdO w' g s r ∧ Below w.heap.size w w' := by
 have HM := Lib.hid (lebGet_any s r.pl hp hs)
 have hg := getL_shape (s.drop r.pl)
 unfold countP
 obtain ⟨⟨er, n, k⟩, hgl⟩ : ∃ p, p = getL (s.drop r.pl) := ⟨_, rfl⟩
 rw [← hgl] at hg HM ⊢
 clear hgl hp hs
 have Hg := Lib.hid hg
 clear hg
 have hw : IntKind.u64.wrap most = most := by rw [IntKind.wrap_u64]; omega
 go_enter Tryz.func137, Tryz.ntmps137
 go_wp2_with fail
 obtain ⟨S, hSd⟩ : ∃ S, S = (fun W => RdO W g s r ∧ Below w.heap.size w W) := ⟨_, rfl⟩
 have stS : St S := by rw [hSd]; infer_instance
 have T0 : Hid (∀ W, S W → RdO W g s r) := by show ∀ W, _; rw [hSd]; exact fun W h => h.1
 have T4 : Hid (∀ W, S W → Below w.heap.size w W) := by show ∀ W, _; rw [hSd]; exact fun W h => h.2
 have hS : S w := by rw [hSd]; exact ⟨h, Below.refl _ _⟩
 clear hSd h
 refine region_hold S (by kernel_rfl) (by kernel_rfl) (St.drew hS) ?_
 clear hS
 iterate 4 (refine hold_value rfl ?_ (fun W hW => ?_) ?_; rotate_left; (focus (go_simp; exact rfl)); simp only [Act.put, List.setIfInBounds_toArray, List.set_cons_zero, List.set_cons_succ])
 (refine hold_value rfl ?_ (fun W hW => ?_) ?_; rotate_left; (focus (have c0 := Row.cellv (T0.out W hW) (i := 0) (v := .string ⟨s.toArray⟩) rfl; go_simp; exact rfl)); simp only [Act.put, List.setIfInBounds_toArray, List.set_cons_zero, List.set_cons_succ])
 iterate 4 (refine hold_value rfl ?_ (fun W hW => ?_) ?_; rotate_left; (focus (go_simp; exact rfl)); simp only [Act.put, List.setIfInBounds_toArray, List.set_cons_zero, List.set_cons_succ])
 (refine hold_value rfl ?_ (fun W hW => ?_) ?_; rotate_left; (focus (have c0 := Row.cellv (T0.out W hW) (i := 1) (v := .int .i64 (r.pl : Int)) rfl; go_simp; exact rfl)); simp only [Act.put, List.setIfInBounds_toArray, List.set_cons_zero, List.set_cons_succ])
 (refine hold_call_new rfl 173 _ (fun W => by (go_simp; try rfl)) (.tuple #[.int .u64 (n : Int), .int .i64 ((r.pl + k : Nat) : Int), .int .i64 er]) (fun W hW => (HM.out W).mono fun e W' h => ⟨h.1, by rw [← h.2]; exact Below.refl _ _⟩) ?_; simp only [Act.put, List.setIfInBounds_toArray, List.set_cons_zero, List.set_cons_succ])
 iterate 7 (refine hold_value rfl ?_ (fun W hW => ?_) ?_; rotate_left; (focus (go_simp; exact rfl)); simp only [Act.put, List.setIfInBounds_toArray, List.set_cons_zero, List.set_cons_succ])
 refine wpHold_nil fun W hS => ?_
 by_cases he : er = 0
 · subst he
   have Hn : Hid (n < 18446744073709551616) := Lib.hid (by rcases Hg.out with ⟨_, h⟩ | ⟨h, _⟩; exact h; exact absurd rfl h)
   by_cases hm : most < (n : Int)
   · have hi : (if (0 : Int) = 0 ∧ most < (n : Int) then (4 : Int) else 0) = 4 := if_pos ⟨rfl, hm⟩
     go_wp2_with fail
     go_ret3
     exact ⟨rfl, T0.out _ hS, T4.out _ hS⟩
   · have hi : (if (0 : Int) = 0 ∧ most < (n : Int) then (4 : Int) else 0) = 0 := if_neg (fun h => hm h.2)
     have hwn : wrap64 (n : Int) = (n : Int) := IntWalk.wrap64_in _ (by omega)
     go_wp2_with fail
     go_ret3
     exact ⟨by first | rfl | (rw [hwn]; rfl), T0.out _ hS, T4.out _ hS⟩
 · have hi : (if er = 0 ∧ most < (n : Int) then (4 : Int) else er) = er := if_neg (fun h => he h.1)
   go_wp2_with fail
   go_ret3
   exact ⟨rfl, T0.out _ hS, T4.out _ hS⟩
def rCount (s : List UInt8) (r : Rs) (most : Int) : Int × Rs := r.step ((countP s r.pl most).1, (countP s r.pl most).2.1, ((countP s r.pl most).2.2 : Int)) 0
theorem countP_ok {s : List UInt8} {pl : Nat} {most : Int} (h : (countP s pl most).1 = 0) : ((countP s pl most).2.2 : Int) ≤ most := by
 unfold countP at h ⊢
 simp only at h ⊢
 by_cases hc : (getL (s.drop pl)).1 = 0 ∧ most < ((getL (s.drop pl)).2.1 : Int)
 · rw [if_pos hc] at h; exact absurd h (by decide)
 · rw [if_neg hc] at h
   exact Int.not_lt.1 (fun hl => hc ⟨h, hl⟩)
theorem step_wrap {r : Rs} {e : Int} {to : Nat} {x : Int} (h : e = 0 → wrap64 x = x) : r.step (e, to, wrap64 x) 0 = r.step (e, to, x) 0 := by
 unfold Rs.step Rs.move
 dsimp only
 by_cases h0 : r.er = 0
 · by_cases he : e = 0
   · rw [if_pos h0, if_pos he, h he]
   · rw [if_pos h0, if_neg he, if_neg he, if_neg he]
 · rw [if_neg h0, if_neg h0, if_neg h0]
set_option maxRecDepth 100000 in
set_option maxHeartbeats 4000000 in
theorem count2_any (g : Nat) (s : List UInt8) (r : Rs) (most : Int) (hp : r.pl ≤ s.length) (hs : s.length ≤ 1000000) (h0 : 0 ≤ most) (h1 : most ≤ 1048576) (w : World) (h : RdO w g s r) :
 Calls Tryz.prog 95 #[.pointer (some ⟨g, 0, none⟩), .int .i64 most] w fun e w' => e = .returned (.int .i64 (rCount s r most).1) ∧ RdO w' g s (rCount s r most).2 ∧ RdEff g w w' := by
 have HM := Lib.hid (count_any g s r most hp hs h0 h1 w h)
 have Hw : Hid (r.step ((countP s r.pl most).1, (countP s r.pl most).2.1, wrap64 ((countP s r.pl most).2.2 : Int)) 0 = rCount s r most) := Lib.hid (step_wrap (fun he => IntWalk.wrap64_in _ (by have := countP_ok he; omega)))
 clear hp hs h0 h1 h
 go_enter Tryz.func95, Tryz.ntmps95
 go_wp2_with fail
 refine HM.out.mono ?_
 rintro e w1 ⟨rfl, h, b1⟩
 go_wp2_with fail
 refine (tookI_any g s r _ _ _ w1 h).mono ?_
 rintro e w2 ⟨rfl, h2, o2⟩
 go_wp2_with fail
 go_ret
 rw [Hw.out] at h2
 exact ⟨by rw [← Hw.out]; rfl, h2, (RdEff.of_below b1).trans (RdEff.of_only o2)⟩
def rInt (s : List UInt8) (r : Rs) : Int × Rs := r.step ((getL (s.drop r.pl)).1, r.pl + (getL (s.drop r.pl)).2.2, zagZ (getL (s.drop r.pl)).2.1) 0
set_option maxRecDepth 100000 in
set_option maxHeartbeats 4000000 in
theorem rint_any (g : Nat) (s : List UInt8) (r : Rs) (hp : r.pl ≤ s.length) (hs : s.length ≤ 1000000) (w : World) (h : RdO w g s r) :
 Calls Tryz.prog 143 #[.pointer (some ⟨g, 0, none⟩)] w fun e w' => e = .returned (.int .i64 (rInt s r).1) ∧ RdO w' g s (rInt s r).2 ∧ RdEff g w w' := by
 have HM := Lib.hid (zigGet_any s r.pl hp hs)
 clear hp hs
 unfold rInt
 obtain ⟨⟨er, n, k⟩, hgl⟩ : ∃ p, p = getL (s.drop r.pl) := ⟨_, rfl⟩
 rw [← hgl] at HM ⊢
 clear hgl
 go_enter Tryz.func143, Tryz.ntmps143
 go_wp2_with fail
 obtain ⟨S, hSd⟩ : ∃ S, S = (fun W => RdO W g s r ∧ Below w.heap.size w W) := ⟨_, rfl⟩
 have stS : St S := by rw [hSd]; infer_instance
 have T0 : Hid (∀ W, S W → RdO W g s r) := by show ∀ W, _; rw [hSd]; exact fun W h => h.1
 have T4 : Hid (∀ W, S W → Below w.heap.size w W) := by show ∀ W, _; rw [hSd]; exact fun W h => h.2
 have hS : S w := by rw [hSd]; exact ⟨h, Below.refl _ _⟩
 clear hSd h
 refine region_hold S (by kernel_rfl) (by kernel_rfl) (St.drew hS) ?_
 clear hS
 iterate 4 (refine hold_value rfl ?_ (fun W hW => ?_) ?_; rotate_left; (focus (go_simp; exact rfl)); simp only [Act.put, List.setIfInBounds_toArray, List.set_cons_zero, List.set_cons_succ])
 (refine hold_value rfl ?_ (fun W hW => ?_) ?_; rotate_left; (focus (have c0 := Row.cellv (T0.out W hW) (i := 0) (v := .string ⟨s.toArray⟩) rfl; go_simp; exact rfl)); simp only [Act.put, List.setIfInBounds_toArray, List.set_cons_zero, List.set_cons_succ])
 iterate 4 (refine hold_value rfl ?_ (fun W hW => ?_) ?_; rotate_left; (focus (go_simp; exact rfl)); simp only [Act.put, List.setIfInBounds_toArray, List.set_cons_zero, List.set_cons_succ])
 (refine hold_value rfl ?_ (fun W hW => ?_) ?_; rotate_left; (focus (have c0 := Row.cellv (T0.out W hW) (i := 1) (v := .int .i64 (r.pl : Int)) rfl; go_simp; exact rfl)); simp only [Act.put, List.setIfInBounds_toArray, List.set_cons_zero, List.set_cons_succ])
 (refine hold_call_new rfl 176 _ (fun W => by (go_simp; try rfl)) (.tuple #[.int .i64 (zagZ n), .int .i64 ((r.pl + k : Nat) : Int), .int .i64 er]) (fun W hW => (HM.out W).mono fun e W' h => ⟨h.1, by rw [← h.2]; exact Below.refl _ _⟩) ?_; simp only [Act.put, List.setIfInBounds_toArray, List.set_cons_zero, List.set_cons_succ])
 iterate 7 (refine hold_value rfl ?_ (fun W hW => ?_) ?_; rotate_left; (focus (go_simp; exact rfl)); simp only [Act.put, List.setIfInBounds_toArray, List.set_cons_zero, List.set_cons_succ])
 refine wpHold_nil fun W hS => ?_
 go_wp2_with fail
 refine (tookI_any g s r _ (r.pl + k) _ W (T0.out _ hS)).mono ?_
 rintro e w2 ⟨rfl, h2, o2⟩
 go_wp2_with fail
 go_ret
 exact ⟨rfl, h2, (RdEff.of_below (T4.out _ hS)).trans (RdEff.of_only o2)⟩
def partP (s : List UInt8) (pl : Nat) (n : Nat) : Int × Nat × List UInt8 := if s.length < pl + n then (2, pl, []) else (0, pl + n, (s.drop pl).take n)
set_option maxRecDepth 100000 in
set_option maxHeartbeats 4000000 in
theorem rpart_any (g : Nat) (s : List UInt8) (r : Rs) (pl n : Nat) (hp : pl ≤ s.length) (hs : s.length ≤ 1000000) (hn : (n : Int) ≤ 1048576) (w : World) (h : RdO w g s r) :
 Calls Tryz.prog 175 #[.pointer (some ⟨g, 0, none⟩), .int .i64 (pl : Int), .int .i64 (n : Int)] w fun e w' => e = .returned (.tuple #[.string ⟨(partP s pl n).2.2.toArray⟩, .int .i64 ((partP s pl n).2.1 : Int), .int .i64 (partP s pl n).1]) ∧ w = w' := by
 have c0 := Row.cellv h (i := 0) (v := .string ⟨s.toArray⟩) rfl
 have hsz : (⟨s.toArray⟩ : ByteArray).size = s.length := by simp [ByteArray.size]
 have hpI : (pl : Int) ≤ (s.length : Int) := by omega
 have hsI : (s.length : Int) ≤ 1000000 := by omega
 by_cases hc : s.length < pl + n
 · rw [partP, if_pos hc]
   have hcI : (s.length : Int) - (pl : Int) < (n : Int) := by omega
   clear h hc hs hp
   go_enter Tryz.func175, Tryz.ntmps175
   go_wp2_with fail
   go_ret3
   exact ⟨rfl, rfl⟩
 · rw [partP, if_neg hc]
   have hcI : ¬ (s.length : Int) - (pl : Int) < (n : Int) := by omega
   have hext := str_ext s pl (pl + n)
   rw [show pl + n - pl = n by omega] at hext
   obtain ⟨m, hm⟩ : ∃ m : Nat, m = pl + n := ⟨_, rfl⟩
   rw [← hm] at hext ⊢
   have hmI : (pl : Int) + (n : Int) = (m : Int) := by omega
   have hmlt : (m : Int) ≤ (s.length : Int) := by omega
   have hpm : (pl : Int) ≤ (m : Int) := by omega
   clear h hc hs hp hm
   go_enter Tryz.func175, Tryz.ntmps175
   go_wp2_with fail
   go_ret3
   exact ⟨rfl, rfl⟩
def rRaw (s : List UInt8) (r : Rs) (n : Nat) : List UInt8 × Rs := r.step (partP s r.pl n) []
set_option maxRecDepth 100000 in
set_option maxHeartbeats 4000000 in
theorem rraw_any (g : Nat) (s : List UInt8) (r : Rs) (n : Nat) (hp : r.pl ≤ s.length) (hs : s.length ≤ 1000000) (hn : (n : Int) ≤ 1048576) (w : World) (h : RdO w g s r) :
 Calls Tryz.prog 144 #[.pointer (some ⟨g, 0, none⟩), .int .i64 (n : Int)] w fun e w' => e = .returned (.string ⟨(rRaw s r n).1.toArray⟩) ∧ RdO w' g s (rRaw s r n).2 ∧ RdEff g w w' := by
 have HM := Lib.hid (rpart_any g s r r.pl n hp hs hn w h)
 have c1 := Row.cellv h (i := 1) (v := .int .i64 (r.pl : Int)) rfl
 have hn0 : ¬ (n : Int) < 0 := by omega
 have HH := Lib.hid h
 clear hp hs h hn
 unfold rRaw
 obtain ⟨⟨er, to, x⟩, hgl⟩ : ∃ p, p = partP s r.pl n := ⟨_, rfl⟩
 rw [← hgl] at HM ⊢
 clear hgl
 go_enter Tryz.func144, Tryz.ntmps144
 go_wp2_with fail
 refine HM.out.mono ?_
 rintro e w1 ⟨rfl, rfl⟩
 go_wp2_with fail
 refine (tookS_any g s r x to er w HH.out).mono ?_
 rintro e w2 ⟨rfl, h2, o2⟩
 go_wp2_with fail
 go_ret
 exact ⟨rfl, h2, RdEff.of_only o2⟩
def rByte (s : List UInt8) (r : Rs) : Nat × Rs := (match (rRaw s r 1).1 with | [] => 0 | b :: _ => b.toNat, (rRaw s r 1).2)
theorem index0 {x : List UInt8} {b : UInt8} (W : World) : (Instr.index 9 (.string ⟨(b :: x).toArray⟩) (.int .i64 0)).run Tryz.prog W = .ok (.int .u8 (b.toNat : Int)) W := ix_str (s := b :: x) (i := 0) rfl W
set_option maxRecDepth 100000 in
set_option maxHeartbeats 4000000 in
theorem rbyte_any (g : Nat) (s : List UInt8) (r : Rs) (hp : r.pl ≤ s.length) (hs : s.length ≤ 1000000) (w : World) (h : RdO w g s r) :
 Calls Tryz.prog 142 #[.pointer (some ⟨g, 0, none⟩)] w fun e w' => e = .returned (.int .u8 ((rByte s r).1 : Int)) ∧ RdO w' g s (rByte s r).2 ∧ RdEff g w w' := by
 have HM := Lib.hid (rraw_any g s r 1 hp hs (by decide) w h)
 clear hp hs h
 unfold rByte
 obtain ⟨⟨x, r2⟩, hgl⟩ : ∃ p, p = rRaw s r 1 := ⟨_, rfl⟩
 rw [← hgl] at HM ⊢
 clear hgl
 cases x with
 | nil =>
  go_enter Tryz.func142, Tryz.ntmps142
  go_wp2_with fail
  refine HM.out.mono ?_
  rintro e w1 ⟨rfl, h1, e1⟩
  go_wp2_with fail
  go_ret
  exact ⟨rfl, h1, e1⟩
 | cons b x =>
  have hne : ¬ (⟨(b :: x).toArray⟩ : ByteArray) = ⟨#[]⟩ := fun e => by injection e with e; simp at e
  have hix := index0 (x := x) (b := b)
  go_enter Tryz.func142, Tryz.ntmps142
  go_wp2_with fail
  refine HM.out.mono ?_
  rintro e w1 ⟨rfl, h1, e1⟩
  go_wp2_with fail
  go_ret
  exact ⟨rfl, h1, e1⟩
def rText (s : List UInt8) (r : Rs) (most : Int) : List UInt8 × Rs :=
 if (countP s r.pl most).1 = 0 then r.step (partP s (countP s r.pl most).2.1 (countP s r.pl most).2.2) [] else r.step ((countP s r.pl most).1, (countP s r.pl most).2.1, []) []
theorem countP_pl {s : List UInt8} {pl : Nat} (most : Int) (h : pl ≤ s.length) : (countP s pl most).2.1 ≤ s.length := by
 unfold countP
 have := getL_len (s.drop pl)
 simp only [List.length_drop] at this ⊢
 omega
set_option maxRecDepth 100000 in
set_option maxHeartbeats 4000000 in
theorem rtext_any (g : Nat) (s : List UInt8) (r : Rs) (most : Int) (hp : r.pl ≤ s.length) (hs : s.length ≤ 1000000) (h0 : 0 ≤ most) (h1 : most ≤ 1048576) (w : World) (h : RdO w g s r) :
 Calls Tryz.prog 141 #[.pointer (some ⟨g, 0, none⟩), .int .i64 most] w fun e w' => e = .returned (.string ⟨(rText s r most).1.toArray⟩) ∧ RdO w' g s (rText s r most).2 ∧ RdEff g w w' := by
 have HM := Lib.hid (count_any g s r most hp hs h0 h1 w h)
 have Hpl := Lib.hid (countP_pl most hp)
 have Hok := Lib.hid (fun h => countP_ok (s := s) (pl := r.pl) (most := most) h)
 have Hs := Lib.hid hs
 have H1 := Lib.hid h1
 clear hp hs h h1
 unfold rText
 obtain ⟨⟨er, to, n⟩, hgl⟩ : ∃ p, p = countP s r.pl most := ⟨_, rfl⟩
 rw [← hgl] at HM Hpl Hok ⊢
 clear hgl
 by_cases he : er = 0
 · subst he
   have hle : (n : Int) ≤ most := Hok.out rfl
   have hle2 : (n : Int) ≤ 1048576 := Int.le_trans hle H1.out
   have hwn : wrap64 (n : Int) = (n : Int) := IntWalk.wrap64_in _ (by omega)
   rw [if_pos rfl]
   rw [hwn] at HM
   obtain ⟨⟨e2, to2, x⟩, hpl⟩ : ∃ p, p = partP s to n := ⟨_, rfl⟩
   have HP := Lib.hid (fun w => rpart_any g s r to n Hpl.out Hs.out hle2 w)
   rw [← hpl] at HP ⊢
   clear hpl hwn hle hle2 Hok
   go_enter Tryz.func141, Tryz.ntmps141
   go_wp2_with fail
   refine HM.out.mono ?_
   rintro e w1 ⟨rfl, h1, b1⟩
   go_wp2_with fail
   refine (HP.out w1 h1).mono ?_
   rintro e w2 ⟨rfl, rfl⟩
   go_wp2_with fail
   refine (tookS_any g s r x to2 e2 w1 h1).mono ?_
   rintro e w2 ⟨rfl, h2, o2⟩
   go_wp2_with fail
   go_ret
   exact ⟨rfl, h2, (RdEff.of_below b1).trans (RdEff.of_only o2)⟩
 · rw [if_neg he]
   clear Hok
   go_enter Tryz.func141, Tryz.ntmps141
   go_wp2_with fail
   refine HM.out.mono ?_
   rintro e w1 ⟨rfl, h1, b1⟩
   go_wp2_with fail
   refine (tookS_any g s r [] to er w1 h1).mono ?_
   rintro e w2 ⟨rfl, h2, o2⟩
   go_wp2_with fail
   go_ret
   exact ⟨rfl, h2, (RdEff.of_below b1).trans (RdEff.of_only o2)⟩
def rdEnd (s : List UInt8) (r : Rs) : Int := if r.er = 0 ∧ r.pl < s.length then 5 else r.er
set_option maxRecDepth 100000 in
set_option maxHeartbeats 4000000 in
theorem rend_any (g : Nat) (s : List UInt8) (r : Rs) (w : World) (h : RdO w g s r) :
 Calls Tryz.prog 96 #[.pointer (some ⟨g, 0, none⟩)] w fun e w' => e = .returned (.int .i64 (rdEnd s r)) ∧ Below w.heap.size w w' ∧ RdO w' g s r := by
 have hsz : (⟨s.toArray⟩ : ByteArray).size = s.length := by simp [ByteArray.size]
 obtain ⟨pl, er⟩ := r
 have c0 := Row.cellv h (i := 0) (v := .string ⟨s.toArray⟩) rfl
 have c1 := Row.cellv h (i := 1) (v := .int .i64 (pl : Int)) rfl
 have c2 := Row.cellv h (i := 2) (v := .int .i64 er) rfl
 unfold rdEnd
 by_cases he : er = 0
 · subst he
   by_cases hl : pl < s.length
   · have hlI : (pl : Int) < (s.length : Int) := by omega
     rw [if_pos ⟨rfl, hl⟩]
     go_enter Tryz.func96, Tryz.ntmps96
     go_wp2_with fail
     go_quiet (fail)
     go_wp2_with fail
     go_ret
     exact ⟨rfl, below_drewN (Below.refl _ _) _, h⟩
   · have hlI : ¬ (pl : Int) < (s.length : Int) := by omega
     rw [if_neg (fun h => hl h.2)]
     go_enter Tryz.func96, Tryz.ntmps96
     go_wp2_with fail
     go_quiet (fail)
     go_wp2_with fail
     go_ret
     exact ⟨rfl, below_drewN (Below.refl _ _) _, h⟩
 · rw [if_neg (fun h => he h.1)]
   go_enter Tryz.func96, Tryz.ntmps96
   go_wp2_with fail
   go_quiet (fail)
   go_wp2_with fail
   go_ret
   exact ⟨rfl, below_drewN (Below.refl _ _) _, h⟩
set_option maxRecDepth 100000 in
theorem wireOf_any (s : List UInt8) (w : World) :
 Calls Tryz.prog 94 #[.string ⟨s.toArray⟩] w fun e w' => e = .returned (.pointer (some ⟨w.heap.size, 0, none⟩)) ∧ RdO w' w.heap.size s ⟨0, 0⟩ ∧ Below w.heap.size w w' := by
 go_enter Tryz.func94, Tryz.ntmps94
 go_wp2
 go_ret
 exact ⟨rfl, Row.new _ _ _, (Below.refl _ _).alloc (Nat.le_refl _) _⟩
end Go.Proofs.YtcgglolckkeeiaaGreat
namespace Go.Proofs.YtcgglolckkeeiaaGreat
set_option linter.unusedVariables false
open Go.RowKit
def farZ (n : Int) : Bool := decide (n < 0) || decide (200 ≤ n)
def rightDl (d : Dl) : Bool := decide (d.path.length ≤ 30) && !(d.path.any farZ) && decide (1 ≤ d.op) && decide (d.op ≤ 7)
def pathB (l : List Int) : List UInt8 := l.flatMap fun n => lebL n.toNat
def encDl (d : Dl) : List UInt8 := lebL d.path.length ++ pathB d.path ++ [UInt8.ofNat d.op.toNat] ++ zz d.n
def putDl (d : Dl) : List UInt8 × Int := if rightDl d = true then (encDl d, 0) else ([], 17)
theorem rightDl_iff {d : Dl} : rightDl d = true ↔ d.path.length ≤ 30 ∧ (∀ n ∈ d.path, 0 ≤ n ∧ n < 200) ∧ 1 ≤ d.op ∧ d.op ≤ 7 := by
 unfold rightDl farZ
 simp only [Bool.and_eq_true, decide_eq_true_eq, Bool.not_eq_true', List.any_eq_false, Bool.or_eq_true, not_or, Int.not_lt, Int.not_le, and_assoc]
theorem pathB_len' (l : List Int) : (pathB l).length ≤ 10 * l.length := by
 induction l with
 | nil => simp [pathB]
 | cons a l ih =>
  have h2 := lebL_len a.toNat
  simp only [pathB, List.flatMap_cons, List.length_append, List.length_cons] at ih ⊢
  omega
theorem pathB_snoc (l : List Int) (n : Int) : pathB (l ++ [n]) = pathB l ++ lebL n.toNat := by simp [pathB]
theorem encDl_len {d : Dl} (h : rightDl d = true) : (encDl d).length ≤ 321 := by
 obtain ⟨h1, _⟩ := rightDl_iff.1 h
 have := pathB_len' d.path
 have h3 := lebL_len d.path.length
 have h4 := zz_len d.n
 simp only [encDl, List.length_append, List.length_cons, List.length_nil]
 omega
end Go.Proofs.YtcgglolckkeeiaaGreat
namespace Go.Proofs.YtcgglolckkeeiaaGreat
set_option linter.unusedVariables false
open Go.RowKit
def rCountZ (z : Int) (s : List UInt8) (r : Rs) (most : Int) : Int × Rs := r.step ((countP s r.pl most).1, (countP s r.pl most).2.1, ((countP s r.pl most).2.2 : Int)) z
theorem rCount_is (s : List UInt8) (r : Rs) (most : Int) : rCount s r most = rCountZ 0 s r most := rfl
def rIntZ (z : Int) (s : List UInt8) (r : Rs) : Int × Rs := r.step ((getL (s.drop r.pl)).1, r.pl + (getL (s.drop r.pl)).2.2, zagZ (getL (s.drop r.pl)).2.1) z
theorem step_good {α : Type} {r : Rs} (h : r.er = 0) (to : Nat) (x z : α) : r.step (0, to, x) z = (x, ⟨to, 0⟩) := by
 unfold Rs.step; simp only [move_ok h]; simp
theorem drop_app {s a t : List UInt8} {pl : Nat} (h : s.drop pl = a ++ t) : s.drop (pl + a.length) = t := by
 rw [← List.drop_drop, h, List.drop_left']; rfl
theorem rCountZ_put {z : Int} {s t : List UInt8} {pl n : Nat} {most : Int} (h : s.drop pl = lebL n ++ t) (hn : (n : Int) ≤ most) (hn2 : n < 18446744073709551616) : rCountZ z s ⟨pl, 0⟩ most = ((n : Int), ⟨pl + (lebL n).length, 0⟩) := by
 have e : countP s pl most = (0, pl + (lebL n).length, n) := by
  unfold countP
  rw [h, getL_put n hn2 t]
  simp only [true_and]
  rw [if_neg (by omega)]
 unfold rCountZ
 dsimp only
 rw [e]
 exact step_good rfl _ _ _
theorem rIntZ_put {z : Int} {s t : List UInt8} {pl : Nat} {n : Int} (h : s.drop pl = zz n ++ t) (hn : InI n) : rIntZ z s ⟨pl, 0⟩ = (n, ⟨pl + (zz n).length, 0⟩) := by
 have e : getL (s.drop pl) = (0, zigN n, (zz n).length) := by rw [h]; exact getL_put (zigN n) (zigN_lt hn) t
 unfold rIntZ
 dsimp only
 rw [e]
 dsimp only
 rw [zag_zig hn]
 exact step_good rfl _ _ _
theorem drop_cons_at {s t : List UInt8} {pl : Nat} {b : UInt8} (h : s.drop pl = b :: t) : s[pl]? = some b ∧ pl < s.length := by
 have e : s[pl]? = some b := by
  have := congrArg (fun l => l[0]?) h
  simpa [List.getElem?_drop] using this
 exact ⟨e, (List.getElem?_eq_some_iff.1 e).1⟩
theorem rByte_put {s t : List UInt8} {pl : Nat} {b : UInt8} (h : s.drop pl = b :: t) : rByte s ⟨pl, 0⟩ = (b.toNat, ⟨pl + 1, 0⟩) := by
 obtain ⟨h1, h2⟩ := drop_cons_at h
 have e : rRaw s ⟨pl, 0⟩ 1 = ([b], ⟨pl + 1, 0⟩) := by
  unfold rRaw partP
  dsimp only
  rw [if_neg (by omega), h]
  exact step_good rfl _ _ _
 unfold rByte
 rw [e]
def pathR (z most : Int) (s : List UInt8) (r : Rs) : Nat → List Int × Rs
 | 0 => ([], r)
 | k + 1 => ((pathR z most s r k).1 ++ [(rCountZ z s (pathR z most s r k).2 most).1], (rCountZ z s (pathR z most s r k).2 most).2)
theorem pathR_put {z most : Int} {s t : List UInt8} {pl : Nat} {l : List Int} (h : s.drop pl = pathB l ++ t) (hl : ∀ n ∈ l, 0 ≤ n ∧ n < 200) (hm : 200 ≤ most) : ∀ k, k ≤ l.length → pathR z most s ⟨pl, 0⟩ k = (l.take k, ⟨pl + (pathB (l.take k)).length, 0⟩)
 | 0, _ => by simp [pathR, pathB]
 | k + 1, hk => by
  obtain ⟨x, hx⟩ : ∃ x, l[k]? = some x := ⟨_, List.getElem?_eq_getElem hk⟩
  have hxr := hl x (List.mem_of_getElem? hx)
  obtain ⟨n, rfl⟩ := Int.eq_ofNat_of_zero_le hxr.1
  have e : l = l.take k ++ ((n : Int) :: l.drop (k + 1)) := by
   have h2 : l.drop k = (n : Int) :: l.drop (k + 1) := by rw [← List.getElem_cons_drop hk, (List.getElem?_eq_some_iff.1 hx).2]
   rw [← h2, List.take_append_drop]
  have h3 : s.drop (pl + (pathB (l.take k)).length) = lebL n ++ (pathB (l.drop (k + 1)) ++ t) := by
   refine drop_app (a := pathB (l.take k)) ?_
   rw [h]
   conv => lhs; rw [e]
   simp [pathB]
  rw [pathR, pathR_put h hl hm k (by omega)]
  dsimp only
  rw [rCountZ_put h3 (by omega) (by omega), take_snoc hx, pathB_snoc, Int.toNat_natCast, List.length_append]
  simp only [Nat.add_assoc]
def dlRd (s : List UInt8) : Dl :=
 ⟨(pathR 0 200 s (rCount s ⟨0, 0⟩ 30).2 (rCount s ⟨0, 0⟩ 30).1.toNat).1, ((rByte s (pathR 0 200 s (rCount s ⟨0, 0⟩ 30).2 (rCount s ⟨0, 0⟩ 30).1.toNat).2).1 : Int), (rInt s (rByte s (pathR 0 200 s (rCount s ⟨0, 0⟩ 30).2 (rCount s ⟨0, 0⟩ 30).1.toNat).2).2).1⟩
theorem u8_op {op : Int} (h1 : 1 ≤ op) (h2 : op ≤ 7) : ((UInt8.ofNat op.toNat).toNat : Int) = op := by
 have e : (UInt8.ofNat op.toNat).toNat = op.toNat % 256 := by simp
 rw [e]; omega
theorem dlRd_put {d : Dl} (h : rightDl d = true) (hn : InI d.n) : dlRd (encDl d) = d := by
 obtain ⟨h1, h2, h3, h4⟩ := rightDl_iff.1 h
 obtain ⟨path, op, n⟩ := d
 dsimp only at h1 h2 h3 h4 hn
 have ec : rCount (encDl ⟨path, op, n⟩) ⟨0, 0⟩ 30 = ((path.length : Int), ⟨(lebL path.length).length, 0⟩) := by
  rw [rCount_is]
  have := rCountZ_put (z := 0) (most := 30) (s := encDl ⟨path, op, n⟩) (pl := 0) (n := path.length) (t := pathB path ++ [UInt8.ofNat op.toNat] ++ zz n) (by simp [encDl]) (by omega) (by omega)
  simpa using this
 have hp : (encDl ⟨path, op, n⟩).drop (lebL path.length).length = pathB path ++ ([UInt8.ofNat op.toNat] ++ zz n) := by
  have := drop_app (s := encDl ⟨path, op, n⟩) (pl := 0) (a := lebL path.length) (t := pathB path ++ ([UInt8.ofNat op.toNat] ++ zz n)) (by simp [encDl])
  simpa using this
 have ep := pathR_put (z := 0) (most := 200) hp h2 (by omega) path.length (Nat.le_refl _)
 rw [List.take_length] at ep
 have hb := drop_app hp
 have eb := rByte_put (b := UInt8.ofNat op.toNat) (t := zz n) hb
 have hi := drop_app (a := [UInt8.ofNat op.toNat]) hb
 have ei : rInt (encDl ⟨path, op, n⟩) ⟨(lebL path.length).length + (pathB path).length + 1, 0⟩ = (n, ⟨(lebL path.length).length + (pathB path).length + 1 + (zz n).length, 0⟩) :=
  rIntZ_put (z := 0) (t := []) (by simpa using hi) hn
 unfold dlRd
 rw [ec]
 dsimp only
 rw [Int.toNat_natCast, ep]
 dsimp only
 rw [eb]
 dsimp only
 rw [ei, u8_op h3 h4]
open Classical in
noncomputable def getDl (s : List UInt8) : Dl × Int := if h : ∃ d, rightDl d = true ∧ InI d.n ∧ encDl d = s then (Classical.choose h, 0) else (⟨[], 0, 0⟩, 12)
theorem getDl_yes {s : List UInt8} {d : Dl} (hd : InI d.n) (hr : rightDl d = true) (he : encDl d = s) : getDl s = (d, 0) := by
 have h : ∃ d, rightDl d = true ∧ InI d.n ∧ encDl d = s := ⟨d, hr, hd, he⟩
 obtain ⟨h1, h2, h3⟩ := Classical.choose_spec h
 have e : Classical.choose h = d := by rw [← dlRd_put h1 h2, h3, ← he, dlRd_put hr hd]
 unfold getDl
 rw [dif_pos h, e]
theorem getDl_no {s : List UInt8} {d : Dl} (hrd : ∀ d0, rightDl d0 = true → InI d0.n → encDl d0 = s → d = d0) (h : ¬ (rightDl d = true ∧ encDl d = s)) : getDl s = (⟨[], 0, 0⟩, 12) := by
 unfold getDl
 rw [dif_neg]
 rintro ⟨d0, h1, h2, h3⟩
 have := hrd d0 h1 h2 h3
 subst this
 exact h ⟨h1, h3⟩
theorem getDl_put {d : Dl} (h : rightDl d = true) (hn : InI d.n) : getDl (encDl d) = (d, 0) := getDl_yes hn h rfl
end Go.Proofs.YtcgglolckkeeiaaGreat
