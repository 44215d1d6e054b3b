/- Lemmas for CoAll. -/
import Derived.Test.YtcgglolckkeeiaaGreatZo22
import Derived.Test.YtcgglolckkeeiaaGreatZo6
set_option linter.unusedVariables false
set_option linter.unusedSimpArgs false
namespace Go.Proofs.YtcgglolckkeeiaaGreat
open Go.RowKit Go.Deep
def kOf (t : List UInt8) : Nat := (lebK 10 t).getD 0
theorem kOf_end {t : List UInt8} {k : Nat} {b : UInt8} (h : Bigs t k) (hb : t[k]? = some b) (hl : b.toNat < 128) (h10 : k < 10) : kOf t = k + 1 := by
 obtain ⟨f, hf⟩ : ∃ f, 10 = k + (f + 1) := ⟨9 - k, by omega⟩
 have hk := (List.getElem?_eq_some_iff.1 hb).1
 have e1 := lebK_bigs (f := f + 1) h
 have e2 : t.drop k = b :: t.drop (k + 1) := by rw [← List.getElem_cons_drop hk, (List.getElem?_eq_some_iff.1 hb).2]
 rw [e2, lebK, if_pos hl, ← hf] at e1
 unfold kOf
 rw [e1]; simp [Nat.add_comm]
theorem kOf_none {t : List UInt8} {k : Nat} (h : Bigs t k) (hk : k = 10 ∨ (t.length = k ∧ k < 10)) : kOf t = 0 := by
 unfold kOf
 rcases hk with rfl | ⟨hk, h10⟩
 · have := lebK_bigs (f := 0) h
   rw [show (10 : Nat) = 10 + 0 from rfl, this]; simp [lebK]
 · obtain ⟨f, hf⟩ : ∃ f, 10 = k + (f + 1) := ⟨9 - k, by omega⟩
   have := lebK_bigs (f := f + 1) h
   rw [hf, this, List.drop_of_length_le (by omega)]; simp [lebK]
set_option maxRecDepth 100000 in
set_option maxHeartbeats 4000000 in
theorem lebBytes_any (s : List UInt8) (at_ : Nat) (ha : at_ ≤ s.length) (hs : s.length ≤ 1000000) (w : World) :
 Calls Tryz.prog 194 #[.string ⟨s.toArray⟩, .int .i64 (at_ : Int)] w fun e w' => e = .returned (.int .i64 (kOf (s.drop at_) : Int)) ∧ w = w' := by
 have hsz : (⟨s.toArray⟩ : ByteArray).size = s.length := by simp [ByteArray.size]
 have ha2 : (at_ : Int) ≤ 1000000 := by omega
 obtain ⟨g, hg⟩ : ∃ g, g = kOf (s.drop at_) := ⟨_, rfl⟩
 rw [← hg]
 have HG := Lib.hid hg
 have Hs := Lib.hid hs
 have Ha := Lib.hid ha
 clear hs ha hg
 go_enter Tryz.func194, Tryz.ntmps194
 go_wp2_with fail
 go_loopw [5] (fun b wr => ∃ k : Nat, b = .int .i64 (k : Int) ∧ (k : Int) ≤ 10 ∧ Hid (Bigs (s.drop at_) k) ∧ wr = w) (fun b _ => (10 - intOf b).toNat)
 case atStart => exact ⟨0, rfl, by omega, Lib.hid (Bigs.zero _), rfl⟩
 case round =>
  obtain ⟨k, rfl, hk, Hb, rfl⟩ := hrel
  have hlen : (s.drop at_).length = s.length - at_ := by simp
  by_cases h10 : k = 10
  · subst h10
    have HF := HG.out.trans (kOf_none Hb.out (.inl rfl))
    clear HG Hb
    subst HF
    go_wp2_with fail
    try rw [Exit.noGoto_ret]
    go_ret
    exact ⟨rfl, rfl⟩
  obtain ⟨m, hm⟩ : ∃ m : Nat, m = at_ + k := ⟨_, rfl⟩
  have hmI : (at_ : Int) + (k : Int) = (m : Int) := by omega
  have h10I : (k : Int) < 10 := by omega
  have hm2 : (m : Int) ≤ 1000010 := by omega
  have Hm := Lib.hid hm
  by_cases hme : m = s.length
  · have hme2 : ¬ (m : Int) < (s.length : Int) := by omega
    have HF := HG.out.trans (kOf_none Hb.out (.inr ⟨by have := Ha.out; omega, by omega⟩))
    clear HG Hb hm hme hlen
    subst HF
    go_wp2_with fail
    try rw [Exit.noGoto_ret]
    go_ret
    exact ⟨rfl, rfl⟩
  have hmlt : m < s.length := by have := Hb.out.1; have := Ha.out; omega
  have hmltI : (m : Int) < (s.length : Int) := by omega
  obtain ⟨b, hb⟩ : ∃ b, s[m]? = some b := ⟨_, List.getElem?_eq_getElem hmlt⟩
  have hix := ix_str hb
  have Hbt : Hid ((s.drop at_)[k]? = some b) := Lib.hid (by rw [List.getElem?_drop, ← hm]; exact hb)
  clear hme hlen hb hm
  by_cases hb1 : b.toNat < 128
  · have hb1I : (b.toNat : Int) < 128 := by omega
    have HF := HG.out.trans (kOf_end Hb.out Hbt.out hb1 (by omega))
    clear HG hb1
    subst HF
    go_wp2_with fail
    try rw [Exit.noGoto_ret]
    go_ret
    exact ⟨by simp, rfl⟩
  · have hb1I : ¬ (b.toNat : Int) < 128 := by omega
    go_wp2_with fail
    refine ⟨⟨k + 1, by simp, by omega, Lib.hid (Hb.out.succ Hbt.out (by omega)), trivial⟩, ?_⟩
    simp only [intOf]; omega
theorem lebV_step {s : List UInt8} {i n : Nat} {b : UInt8} (hb : s[i]? = some b) (hn : n = lebV (s.drop (i + 1)) % 18446744073709551616) :
 IntKind.u64.wrap (IntKind.u64.wrap ((n : Int) * 128) + (IntKind.u64.wrap (b.toNat : Int)).tmod 128) = ((lebV (s.drop i) % 18446744073709551616 : Nat) : Int) := by
 have hi := (List.getElem?_eq_some_iff.1 hb).1
 rw [← List.getElem_cons_drop hi, (List.getElem?_eq_some_iff.1 hb).2, lebV]
 subst hn
 have hb2 := b.toNat_lt
 have e : IntKind.u64.wrap (b.toNat : Int) = (b.toNat : Int) := by rw [IntKind.wrap_u64]; omega
 rw [e, Int.tmod_eq_emod_of_nonneg (by omega)]
 simp only [IntKind.wrap_u64]
 omega
set_option maxRecDepth 100000 in
set_option maxHeartbeats 4000000 in
theorem lebValue_any (s : List UInt8) (hs : s.length ≤ 1000000) (w : World) :
 Calls Tryz.prog 195 #[.string ⟨s.toArray⟩] w fun e w' => e = .returned (.int .u64 ((lebV s % 18446744073709551616 : Nat) : Int)) ∧ w = w' := by
 have hsz : (⟨s.toArray⟩ : ByteArray).size = s.length := by simp [ByteArray.size]
 have hsI : (s.length : Int) ≤ 1000000 := by omega
 clear hs
 obtain ⟨g, hg⟩ : ∃ g, g = lebV s % 18446744073709551616 := ⟨_, rfl⟩
 rw [← hg]
 have HG := Lib.hid hg
 clear hg
 go_enter Tryz.func195, Tryz.ntmps195
 go_wp2_with fail
 go_loopw [3, 4] (fun a b wr => ∃ n j : Nat, a = .int .u64 (n : Int) ∧ Hid (n = lebV (s.drop j) % 18446744073709551616) ∧ b = .int .i64 ((j : Int) - 1) ∧ (j : Int) ≤ (s.length : Int) ∧ wr = w) (fun _ b _ => (intOf b + 1).toNat)
 case atStart => exact ⟨0, s.length, rfl, Lib.hid (by simp [lebV]), rfl, by omega, rfl⟩
 case round =>
  obtain ⟨n, j, rfl, Hn, rfl, hj, rfl⟩ := hrel
  cases j with
  | zero =>
   have HF : Hid (n = g) := Lib.hid (by rw [Hn.out, HG.out]; simp)
   go_wp2_with fail
   try rw [Exit.noGoto_ret]
   go_ret
   exact ⟨show Ending.returned (.int .u64 (n : Int)) = _ from by rw [HF.out], rfl⟩
  | succ j =>
   have e : ((j + 1 : Nat) : Int) - 1 = (j : Int) := by omega
   have hj2 : j < s.length := by omega
   obtain ⟨b, hb⟩ : ∃ b, s[j]? = some b := ⟨_, List.getElem?_eq_getElem hj2⟩
   have hix := ix_str hb
   have Hst := Lib.hid (lebV_step hb Hn.out)
   have hj3 : (j : Int) ≤ 1000000 := by omega
   rw [e]
   clear e hb
   go_wp2_with fail
   refine ⟨⟨lebV (s.drop j) % 18446744073709551616, j, by rw [Hst.out], Lib.hid rfl, rfl, by omega, trivial⟩, ?_⟩
   simp only [intOf]; omega
theorem getL_ref (t : List UInt8) : getL t = if kOf t = 0 then (if t.length < 10 then (2, 0, 0) else (3, 0, 0)) else (if lebL (lebV (t.take (kOf t)) % 18446744073709551616) = t.take (kOf t) then (0, lebV (t.take (kOf t)) % 18446744073709551616, kOf t) else (3, 0, 0)) := by
 unfold getL kOf
 cases hk : lebK 10 t with
 | none => simp
 | some k =>
  obtain ⟨_, _, _, h⟩ := lebK_some hk
  simp only [Option.getD_some]
  rw [if_neg (by omega : ¬ k = 0)]
theorem kOf_le (t : List UInt8) : kOf t ≤ t.length ∧ kOf t ≤ 10 := by
 unfold kOf
 cases hk : lebK 10 t with
 | none => simp
 | some k => obtain ⟨_, h1, h2, _⟩ := lebK_some hk; exact ⟨h2, h1⟩
theorem str_ext (s : List UInt8) (i j : Nat) : (⟨s.toArray⟩ : ByteArray).extract i j = ⟨((s.drop i).take (j - i)).toArray⟩ := by
 apply ByteArray.ext
 rw [ByteArray.data_extract]
 simp [List.extract_toArray, List.extract_eq_take_drop]
set_option maxRecDepth 100000 in
set_option maxHeartbeats 4000000 in
theorem refGet_any (s : List UInt8) (at_ : Nat) (ha : at_ ≤ s.length) (hs : s.length ≤ 1000000) (w : World) :
 Calls Tryz.prog 179 #[.string ⟨s.toArray⟩, .int .i64 (at_ : Int)] w fun e w' => e = .returned (.tuple #[.int .u64 ((getL (s.drop at_)).2.1 : Int), .int .i64 ((at_ + (getL (s.drop at_)).2.2 : Nat) : Int), .int .i64 (getL (s.drop at_)).1]) ∧ Below w.heap.size w w' := by
 have hsz : (⟨s.toArray⟩ : ByteArray).size = s.length := by simp [ByteArray.size]
 have ha0 : ¬ ((s.length : Int) < (at_ : Int)) := by omega
 have ha2 : (at_ : Int) ≤ 1000000 := by omega
 have hsI : (s.length : Int) ≤ 1000000 := by omega
 obtain ⟨g, hg⟩ : ∃ g, g = getL (s.drop at_) := ⟨_, rfl⟩
 rw [← hg]
 have HG := Lib.hid (hg.trans (getL_ref _))
 obtain ⟨k, hk⟩ : ∃ k, k = kOf (s.drop at_) := ⟨_, rfl⟩
 have hkl := kOf_le (s.drop at_)
 have hlen : (s.drop at_).length = s.length - at_ := by simp
 have HB := Lib.hid (lebBytes_any s at_ ha hs)
 rw [← hk] at HG hkl HB
 rw [hlen] at HG hkl
 have hkI : (k : Int) ≤ (s.length : Int) - at_ ∧ (k : Int) ≤ 10 := by omega
 have Ha := Lib.hid ha
 have Hs := Lib.hid hs
 clear ha hg hk hlen hs
 go_enter Tryz.func179, Tryz.ntmps179
 go_wp2_with fail
 refine (HB.out w).mono ?_
 rintro e w1 ⟨rfl, rfl⟩
 clear HB
 by_cases hk0 : k = 0
 · subst hk0
   by_cases hl : s.length - at_ < 10
   · have hl2 : (s.length : Int) - (at_ : Int) < 10 := by have := Ha.out; omega
     have HF := HG.out.trans ((if_pos rfl).trans (if_pos hl))
     clear HG
     subst HF
     go_wp2_with fail
     try rw [Exit.noGoto_ret]
     go_ret3
     exact ⟨rfl, Below.refl _ _⟩
   · have hl2 : ¬ (s.length : Int) - (at_ : Int) < 10 := by have := Ha.out; omega
     have HF := HG.out.trans ((if_pos rfl).trans (if_neg hl))
     clear HG
     subst HF
     go_wp2_with fail
     try rw [Exit.noGoto_ret]
     go_ret3
     exact ⟨rfl, Below.refl _ _⟩
 have hk0I : ¬ (k : Int) = 0 := by omega
 obtain ⟨m, hm⟩ : ∃ m : Nat, m = at_ + k := ⟨_, rfl⟩
 have hmI : (at_ : Int) + (k : Int) = (m : Int) := by omega
 have hmlt : (m : Int) ≤ (s.length : Int) := by omega
 have ham : (at_ : Int) ≤ (m : Int) := by omega
 have HF := Lib.hid (HG.out.trans (if_neg hk0))
 have hext := str_ext s at_ m
 rw [show m - at_ = k by omega] at hext
 have Hm := Lib.hid hm
 have Hk := Lib.hid (And.intro hkl hk0)
 clear HG hm hkl hk0
 obtain ⟨p, hp⟩ : ∃ p, p = (s.drop at_).take k := ⟨_, rfl⟩
 rw [← hp] at HF hext
 have hpl : p.length ≤ 10 := by rw [hp, List.length_take]; have := Hk.out.1.2; omega
 have HV := Lib.hid (lebValue_any p (by omega))
 obtain ⟨n, hn⟩ : ∃ n, n = lebV p % 18446744073709551616 := ⟨_, rfl⟩
 have Hn := Lib.hid hn
 rw [← hn] at HF HV
 have Hnl : Hid (n < 18446744073709551616) := Lib.hid (by rw [hn]; exact Nat.mod_lt _ (by decide))
 clear hp hn hpl
 go_wp2_with fail
 refine (HV.out w).mono ?_
 rintro e w1 ⟨rfl, rfl⟩
 clear HV
 go_wp2_with fail
 obtain ⟨S, hSd⟩ : ∃ S, S = (fun W => Below w.heap.size w W) := ⟨_, rfl⟩
 have stS : St S := by rw [hSd]; infer_instance
 have T4 : Hid (∀ W, S W → Below w.heap.size w W) := by show ∀ W, _; rw [hSd]; exact fun W h => h
 have hS : S w := by rw [hSd]; exact Below.refl _ _
 clear hSd
 have hwm : IntKind.i64.wrap (m : Int) = (m : Int) := by rw [IntKind.wrap_i64]; omega
 refine region_hold S (by kernel_rfl) (by kernel_rfl) (St.drew hS) ?_
 clear hS
 (refine hold_value rfl ?_ (fun W hW => ?_) ?_; rotate_left; (focus (go_simp; exact rfl)); simp only [Act.put, List.setIfInBounds_toArray, List.set_cons_zero, List.set_cons_succ])
 (refine hold_call_new rfl 91 _ (fun W => by (go_simp; try rfl)) (.string ⟨(lebL n).toArray⟩) (fun W hW => lebL_ref n Hnl.out W) ?_; simp only [Act.put, List.setIfInBounds_toArray, List.set_cons_zero, List.set_cons_succ])
 iterate 6 (refine hold_value rfl ?_ (fun W hW => ?_) ?_; rotate_left; (focus (go_simp; exact rfl)); simp only [Act.put, List.setIfInBounds_toArray, List.set_cons_zero, List.set_cons_succ])
 by_cases hc : lebL n = p
 · have hcI : (⟨(lebL n).toArray⟩ : ByteArray) = ⟨p.toArray⟩ := by rw [hc]
   (refine hold_value rfl ?_ (fun W hW => ?_) ?_; rotate_left; (focus (go_simp; exact rfl)); simp only [Act.put, List.setIfInBounds_toArray, List.set_cons_zero, List.set_cons_succ])
   refine wpHold_nil fun W hS => ?_
   have HF' := HF.out.trans (if_pos hc)
   clear HF hc hcI
   subst HF'
   go_wp2_with fail
   try rw [Exit.noGoto_ret]
   go_ret3
   exact ⟨ret_get rfl (by first | omega | (simp; omega) | simp) rfl, T4.out _ hS⟩
 · have hcI : ¬ (⟨(lebL n).toArray⟩ : ByteArray) = ⟨p.toArray⟩ := fun e => hc (by simpa using e)
   (refine hold_value rfl ?_ (fun W hW => ?_) ?_; rotate_left; (focus (go_simp; exact rfl)); simp only [Act.put, List.setIfInBounds_toArray, List.set_cons_zero, List.set_cons_succ])
   refine wpHold_nil fun W hS => ?_
   have HF' := HF.out.trans (if_neg hc)
   have hcb : (lebL n == p) = false := by simpa using hc
   clear HF hc hcI
   subst HF'
   go_wp2_with fail
   · try rw [Exit.noGoto_ret]
     go_ret3
     exact ⟨rfl, T4.out _ hS⟩
   · exact absurd ‹(!lebL n == p) = false› (by rw [hcb]; decide)
end Go.Proofs.YtcgglolckkeeiaaGreat
namespace Go.Proofs.YtcgglolckkeeiaaGreat
open Go.RowKit Go.Deep
structure Rs where
 pl : Nat
 er : Int
def RdO (W : World) (g : Nat) (s : List UInt8) (r : Rs) : Prop := Row W g 128 #[.string ⟨s.toArray⟩, .int .i64 (r.pl : Int), .int .i64 r.er]
theorem RdO.go {W W' : World} {g : Nat} {s : List UInt8} {r : Rs} (h : RdO W g s r) (b : Below W.heap.size W W') : RdO W' g s r := Row.below h b (Row.lt h)
instance St.rdo {g : Nat} {s : List UInt8} {r : Rs} : St (fun W => RdO W g s r) := ⟨fun h b => h.go b⟩
def Rs.move (r : Rs) (to : Nat) (e : Int) : Rs := if r.er = 0 then (if e = 0 then ⟨to, 0⟩ else ⟨r.pl, e⟩) else r
theorem move_no {r : Rs} (h : ¬ r.er = 0) (to : Nat) (e : Int) : r.move to e = r := if_neg h
theorem move_ok {r : Rs} (h : r.er = 0) (to : Nat) : r.move to 0 = ⟨to, 0⟩ := by unfold Rs.move; rw [if_pos h, if_pos rfl]
theorem move_bad {r : Rs} (h : r.er = 0) (to : Nat) {e : Int} (he : ¬ e = 0) : r.move to e = ⟨r.pl, e⟩ := by unfold Rs.move; rw [if_pos h, if_neg he]
theorem Only.trans' {g : Nat} {a b c : World} (h : Only g a b) (k : Only g b c) : Only g a c := ⟨k.os.trans h.os, k.tape.trans h.tape, k.output.trans h.output, k.size.trans h.size, fun i hi => (k.block i hi).trans (h.block i hi)⟩
theorem Only.refl' (g : Nat) (w : World) : Only g w w := ⟨rfl, rfl, rfl, rfl, fun _ _ => rfl⟩
set_option maxRecDepth 100000 in
set_option maxHeartbeats 2000000 in
theorem move_any (g : Nat) (s : List UInt8) (r : Rs) (to : Nat) (er : Int) (w : World) (h : RdO w g s r) :
 Calls Tryz.prog 139 #[.pointer (some ⟨g, 0, none⟩), .int .i64 (to : Int), .int .i64 er] w fun e w' => e = .returned (.bool (decide ((r.move to er).er = 0))) ∧ RdO w' g s (r.move to er) ∧ Only g w w' := by
 obtain ⟨pl, e0⟩ := r
 have hc1 := Row.cellv h (i := 1) (v := .int .i64 (pl : Int)) rfl
 have hc2 := Row.cellv h (i := 2) (v := .int .i64 e0) rfl
 have hf1 := Row.free h 1
 have hf2 := Row.free h 2
 by_cases h0 : e0 = 0
 · subst h0
   by_cases he : er = 0
   · subst he
     go_enter Tryz.func139, Tryz.ntmps139
     go_wp2
     go_ret
     exact ⟨by simp [Rs.move], by rw [move_ok rfl]; exact (Row.set (Row.set h 2 (.int .i64 0)) 1 (.int .i64 (to : Int))), (only_set _ _ _ _).trans' (only_set _ _ _ _)⟩
   · go_enter Tryz.func139, Tryz.ntmps139
     go_wp2
     go_ret
     exact ⟨by simp [Rs.move, he], by rw [move_bad rfl _ he]; exact (Row.set h 2 (.int .i64 er)), only_set _ _ _ _⟩
 · rw [move_no h0]
   go_enter Tryz.func139, Tryz.ntmps139
   go_wp2
   go_ret
   exact ⟨by simp [h0], h, Only.refl' _ _⟩
def Rs.step {α : Type} (r : Rs) (p : Int × Nat × α) (z : α) : α × Rs := (if (r.move p.2.1 p.1).er = 0 then p.2.2 else z, r.move p.2.1 p.1)
set_option maxRecDepth 100000 in
set_option maxHeartbeats 2000000 in
theorem tookI_any (g : Nat) (s : List UInt8) (r : Rs) (x : Int) (to : Nat) (er : Int) (w : World) (h : RdO w g s r) :
 Calls Tryz.prog 138 #[.func (.func 139) #[.pointer (some ⟨g, 0, none⟩)] #[], .int .i64 x, .int .i64 (to : Int), .int .i64 er] w fun e w' => e = .returned (.int .i64 (r.step (er, to, x) 0).1) ∧ RdO w' g s (r.step (er, to, x) 0).2 ∧ Only g w w' := by
 have HM := Lib.hid (move_any g s r to er w h)
 clear h
 go_enter Tryz.func138, Tryz.ntmps138
 go_wp2_with fail
 refine HM.out.mono ?_
 rintro e w1 ⟨rfl, h1, o1⟩
 by_cases hc : (r.move to er).er = 0
 · have hd : (decide ((r.move to er).er = 0)) = true := by simpa using hc
   go_wp2_with fail
   go_ret
   exact ⟨by simp [Rs.step, hc], h1, o1⟩
 · have hd : (decide ((r.move to er).er = 0)) = false := by simpa using hc
   go_wp2_with fail
   go_ret
   exact ⟨by simp [Rs.step, hc], h1, o1⟩
set_option maxRecDepth 100000 in
set_option maxHeartbeats 2000000 in
theorem tookS_any (g : Nat) (s : List UInt8) (r : Rs) (x : List UInt8) (to : Nat) (er : Int) (w : World) (h : RdO w g s r) :
 Calls Tryz.prog 174 #[.func (.func 139) #[.pointer (some ⟨g, 0, none⟩)] #[], .string ⟨x.toArray⟩, .int .i64 (to : Int), .int .i64 er] w fun e w' => e = .returned (.string ⟨(r.step (er, to, x) []).1.toArray⟩) ∧ RdO w' g s (r.step (er, to, x) []).2 ∧ Only g w w' := by
 have HM := Lib.hid (move_any g s r to er w h)
 clear h
 go_enter Tryz.func174, Tryz.ntmps174
 go_wp2_with fail
 refine HM.out.mono ?_
 rintro e w1 ⟨rfl, h1, o1⟩
 by_cases hc : (r.move to er).er = 0
 · have hd : (decide ((r.move to er).er = 0)) = true := by simpa using hc
   go_wp2_with fail
   go_ret
   exact ⟨by simp [Rs.step, hc], h1, o1⟩
 · have hd : (decide ((r.move to er).er = 0)) = false := by simpa using hc
   go_wp2_with fail
   go_ret
   exact ⟨by simp [Rs.step, hc], h1, o1⟩
theorem getL_shape (t : List UInt8) : ((getL t).1 = 0 ∧ (getL t).2.1 < 18446744073709551616) ∨ ((getL t).1 ≠ 0 ∧ (getL t).2.1 = 0 ∧ (getL t).2.2 = 0) := by
 unfold getL
 split
 · split <;> exact .inr ⟨by decide, rfl, rfl⟩
 · split
   · exact .inl ⟨rfl, Nat.mod_lt _ (by decide)⟩
   · exact .inr ⟨by decide, rfl, rfl⟩
theorem getL_len (t : List UInt8) : (getL t).2.2 ≤ t.length := by
 have := getL_ref t
 have h := kOf_le t
 rw [this]
 split
 · split <;> simp
 · split <;> simp <;> omega
def zagZ (n : Nat) : Int := if n % 2 = 0 then ((n / 2 : Nat) : Int) else -((n / 2 : Nat) : Int) - 1
theorem zag_in {n : Nat} (h : n < 18446744073709551616) : InI (zagZ n) := by
 unfold zagZ InI; split <;> omega
theorem zag_zig {n : Int} (h : InI n) : zagZ (zigN n) = n := by
 unfold zagZ zigN; unfold InI at h
 by_cases h0 : 0 ≤ n
 · rw [if_pos h0, if_pos (by omega)]; omega
 · rw [if_neg h0, if_neg (by omega)]; omega
theorem and_one (n : Nat) (h : n < 18446744073709551616) : bits .and .u64 (n : Int) 1 = ((n % 2 : Nat) : Int) := by
 show IntKind.u64.wrap ((BitVec.ofInt 64 (n : Int) &&& BitVec.ofInt 64 1).toNat : Int) = _
 have e1 : (BitVec.ofInt 64 (n : Int) &&& BitVec.ofInt 64 1).toNat = n % 2 := by
  rw [BitVec.toNat_and, BitVec.ofInt_natCast, BitVec.toNat_ofNat, Nat.mod_eq_of_lt (by omega), show (BitVec.ofInt 64 1).toNat = 1 by decide +kernel, Nat.and_one_is_mod]
 rw [e1, IntKind.wrap_u64]; omega
theorem xor_zero (m : Nat) (h : m < 9223372036854775808) : bits .xor .i64 (m : Int) 0 = (m : Int) := by
 show IntKind.i64.wrap ((BitVec.ofInt 64 (m : Int) ^^^ BitVec.ofInt 64 0).toNat : Int) = _
 have e1 : (BitVec.ofInt 64 (m : Int) ^^^ BitVec.ofInt 64 0).toNat = m := by
  rw [show BitVec.ofInt 64 0 = 0#64 by decide +kernel, BitVec.xor_zero, BitVec.ofInt_natCast, BitVec.toNat_ofNat, Nat.mod_eq_of_lt (by omega)]
 rw [e1, IntKind.wrap_i64]; omega
theorem xor_ones (m : Nat) (h : m < 9223372036854775808) : bits .xor .i64 (m : Int) (-1) = -(m : Int) - 1 := by
 show IntKind.i64.wrap ((BitVec.ofInt 64 (m : Int) ^^^ BitVec.ofInt 64 (-1)).toNat : Int) = _
 have e1 : (BitVec.ofInt 64 (m : Int) ^^^ BitVec.ofInt 64 (-1)).toNat = 18446744073709551615 - m := by
  rw [show BitVec.ofInt 64 (-1) = BitVec.allOnes 64 by decide +kernel, BitVec.xor_allOnes, BitVec.toNat_not, BitVec.ofInt_natCast, BitVec.toNat_ofNat, Nat.mod_eq_of_lt (by omega)]
 rw [e1, IntKind.wrap_i64]; omega
theorem ret_i64 {a b : Int} (h : a = b) : Ending.returned (.int .i64 a) = .returned (.int .i64 b) := by rw [h]
set_option maxRecDepth 100000 in
set_option maxHeartbeats 2000000 in
theorem zag_any (n : Nat) (hn : n < 18446744073709551616) (w : World) :
 Calls Tryz.prog 193 #[.int .u64 (n : Int)] w fun e w' => e = .returned (.int .i64 (zagZ n)) ∧ w = w' := by
 have ha := and_one n hn
 have Hn := Lib.hid hn
 clear hn
 by_cases h2 : n % 2 = 0
 · rw [h2] at ha
   have H2 := Lib.hid h2
   clear h2
   go_enter Tryz.func193, Tryz.ntmps193
   go_wp2
   go_ret
   refine ⟨ret_i64 ?_, rfl⟩
   have hx := xor_zero (n / 2) (by have := Hn.out; omega)
   have e : wrap64 ((n : Int) / 2) = ((n / 2 : Nat) : Int) := by rw [IntWalk.wrap64_in _ (by have := Hn.out; omega)]; omega
   rw [e, hx, zagZ, if_pos H2.out]
 · have h1 : n % 2 = 1 := by omega
   rw [h1] at ha
   have H2 := Lib.hid h1
   clear h2 h1
   go_enter Tryz.func193, Tryz.ntmps193
   go_wp2
   go_ret
   refine ⟨ret_i64 ?_, rfl⟩
   have hx := xor_ones (n / 2) (by have := Hn.out; omega)
   have e : wrap64 ((n : Int) / 2) = ((n / 2 : Nat) : Int) := by rw [IntWalk.wrap64_in _ (by have := Hn.out; omega)]; omega
   rw [e, hx, zagZ, if_neg (by have := H2.out; omega)]
set_option maxRecDepth 100000 in
set_option maxHeartbeats 2000000 in
theorem zigGet_any (s : List UInt8) (at_ : Nat) (ha : at_ ≤ s.length) (hs : s.length ≤ 1000000) (w : World) :
 Calls Tryz.prog 176 #[.string ⟨s.toArray⟩, .int .i64 (at_ : Int)] w fun e w' => e = .returned (.tuple #[.int .i64 (zagZ (getL (s.drop at_)).2.1), .int .i64 ((at_ + (getL (s.drop at_)).2.2 : Nat) : Int), .int .i64 (getL (s.drop at_)).1]) ∧ w = w' := by
 have HM := Lib.hid (lebGet_any s at_ ha hs w)
 clear ha hs
 have hg := getL_shape (s.drop at_)
 obtain ⟨⟨er, n, k⟩, hgl⟩ : ∃ p, p = getL (s.drop at_) := ⟨_, rfl⟩
 rw [← hgl] at hg HM ⊢
 clear hgl
 have Hg := Lib.hid hg
 clear hg
 go_enter Tryz.func176, Tryz.ntmps176
 go_wp2_with fail
 refine HM.out.mono ?_
 rintro e w1 ⟨rfl, rfl⟩
 clear HM
 have hg := Hg.out
 clear Hg
 rcases hg with ⟨h0, h1⟩ | ⟨h0, h1, h2⟩
 · subst h0
   go_wp2_with fail
   refine (zag_any n h1 w).mono ?_
   rintro e w2 ⟨rfl, rfl⟩
   go_wp2_with fail
   go_ret3
   exact ⟨rfl, rfl⟩
 · subst h1 h2
   go_wp2_with fail
   go_ret3
   exact ⟨by simp [zagZ], rfl⟩
end Go.Proofs.YtcgglolckkeeiaaGreat
namespace Go.Proofs.YtcgglolckkeeiaaGreat
open Go.RowKit Go.Deep
structure RdEff (g : Nat) (w w' : World) : Prop where
 os : w'.os = w.os
 tape : w'.tape = w.tape
 output : w'.output = w.output
 size : w.heap.size ≤ w'.heap.size
 block : ∀ k, k < w.heap.size → k ≠ g → w'.heap[k]? = w.heap[k]?
theorem RdEff.of_below {g : Nat} {w w' : World} (b : Below w.heap.size w w') : RdEff g w w' := ⟨b.os, b.tape, b.output, b.size, fun k hk _ => b.block k hk⟩
theorem RdEff.of_only {g : Nat} {w w' : World} (o : Only g w w') : RdEff g w w' := ⟨o.os, o.tape, o.output, Nat.le_of_eq o.size.symm, fun k _ hg => o.block k hg⟩
theorem RdEff.refl (g : Nat) (w : World) : RdEff g w w := ⟨rfl, rfl, rfl, Nat.le_refl _, fun _ _ _ => rfl⟩
theorem RdEff.trans {g : Nat} {a b c : World} (h : RdEff g a b) (k : RdEff g b c) : RdEff g a c :=
 ⟨k.os.trans h.os, k.tape.trans h.tape, k.output.trans h.output, Nat.le_trans h.size k.size, fun i hi hg => (k.block i (Nat.lt_of_lt_of_le hi h.size) hg).trans (h.block i hi hg)⟩
theorem RdEff.below {g B : Nat} {w w' : World} (h : RdEff g w w') (hB : B ≤ g) (hs : B ≤ w.heap.size) : Below B w w' :=
 ⟨h.os, h.tape, h.output, h.size, fun k hk => h.block k (by omega) (by omega)⟩
theorem RdEff.row {g k : Nat} {w w' : World} {t : TypeId} {cs : Array Value} (h : RdEff g w w') (hr : Row w k t cs) (hk : k ≠ g) : Row w' k t cs := (h.block k hr.lt hk).trans hr
def countP (s : List UInt8) (pl : Nat) (most : Int) : Int × Nat × Nat := (if (getL (s.drop pl)).1 = 0 ∧ most < ((getL (s.drop pl)).2.1 : Int) then 4 else (getL (s.drop pl)).1, pl + (getL (s.drop pl)).2.2, (getL (s.drop pl)).2.1)
set_option maxRecDepth 100000 in
set_option maxHeartbeats 4000000 in
theorem count_any (g : Nat) (s : List UInt8) (r : Rs) (most : Int) (hp : r.pl ≤ s.length) (hs : s.length ≤ 1000000) (h0 : 0 ≤ most) (h1 : most ≤ 1048576) (w : World) (h : RdO w g s r) :
 Calls Tryz.prog 137 #[.pointer (some ⟨g, 0, none⟩), .int .i64 most] w fun e w' => e = .returned (.tuple #[.int .i64 (wrap64 ((countP s r.pl most).2.2 : Int)), .int .i64 ((countP s r.pl most).2.1 : Int), .int .i64 (countP s r.pl most).1]) ∧ RdO w' g s r ∧ Below w.heap.size w w' := by
 have HM := Lib.hid (lebGet_any s r.pl hp hs)
 have hg := getL_shape (s.drop r.pl)
 unfold countP
 obtain ⟨⟨er, n, k⟩, hgl⟩ : ∃ p, p = getL (s.drop r.pl) := ⟨_, rfl⟩
 rw [← hgl] at hg HM ⊢
 clear hgl hp hs
 have Hg := Lib.hid hg
 clear hg
 have hw : IntKind.u64.wrap most = most := by rw [IntKind.wrap_u64]; omega
 go_enter Tryz.func137, Tryz.ntmps137
 go_wp2_with fail
 obtain ⟨S, hSd⟩ : ∃ S, S = (fun W => RdO W g s r ∧ Below w.heap.size w W) := ⟨_, rfl⟩
 have stS : St S := by rw [hSd]; infer_instance
 have T0 : Hid (∀ W, S W → RdO W g s r) := by show ∀ W, _; rw [hSd]; exact fun W h => h.1
 have T4 : Hid (∀ W, S W → Below w.heap.size w W) := by show ∀ W, _; rw [hSd]; exact fun W h => h.2
 have hS : S w := by rw [hSd]; exact ⟨h, Below.refl _ _⟩
 clear hSd h
 refine region_hold S (by kernel_rfl) (by kernel_rfl) (St.drew hS) ?_
 clear hS
 iterate 4 (refine hold_value rfl ?_ (fun W hW => ?_) ?_; rotate_left; (focus (go_simp; exact rfl)); simp only [Act.put, List.setIfInBounds_toArray, List.set_cons_zero, List.set_cons_succ])
 (refine hold_value rfl ?_ (fun W hW => ?_) ?_; rotate_left; (focus (have c0 := Row.cellv (T0.out W hW) (i := 0) (v := .string ⟨s.toArray⟩) rfl; go_simp; exact rfl)); simp only [Act.put, List.setIfInBounds_toArray, List.set_cons_zero, List.set_cons_succ])
 iterate 4 (refine hold_value rfl ?_ (fun W hW => ?_) ?_; rotate_left; (focus (go_simp; exact rfl)); simp only [Act.put, List.setIfInBounds_toArray, List.set_cons_zero, List.set_cons_succ])
 (refine hold_value rfl ?_ (fun W hW => ?_) ?_; rotate_left; (focus (have c0 := Row.cellv (T0.out W hW) (i := 1) (v := .int .i64 (r.pl : Int)) rfl; go_simp; exact rfl)); simp only [Act.put, List.setIfInBounds_toArray, List.set_cons_zero, List.set_cons_succ])
 (refine hold_call_new rfl 173 _ (fun W => by (go_simp; try rfl)) (.tuple #[.int .u64 (n : Int), .int .i64 ((r.pl + k : Nat) : Int), .int .i64 er]) (fun W hW => (HM.out W).mono fun e W' h => ⟨h.1, by rw [← h.2]; exact Below.refl _ _⟩) ?_; simp only [Act.put, List.setIfInBounds_toArray, List.set_cons_zero, List.set_cons_succ])
 iterate 7 (refine hold_value rfl ?_ (fun W hW => ?_) ?_; rotate_left; (focus (go_simp; exact rfl)); simp only [Act.put, List.setIfInBounds_toArray, List.set_cons_zero, List.set_cons_succ])
 refine wpHold_nil fun W hS => ?_
 by_cases he : er = 0
 · subst he
   have Hn : Hid (n < 18446744073709551616) := Lib.hid (by rcases Hg.out with ⟨_, h⟩ | ⟨h, _⟩; exact h; exact absurd rfl h)
   by_cases hm : most < (n : Int)
   · have hi : (if (0 : Int) = 0 ∧ most < (n : Int) then (4 : Int) else 0) = 4 := if_pos ⟨rfl, hm⟩
     go_wp2_with fail
     go_ret3
     exact ⟨rfl, T0.out _ hS, T4.out _ hS⟩
   · have hi : (if (0 : Int) = 0 ∧ most < (n : Int) then (4 : Int) else 0) = 0 := if_neg (fun h => hm h.2)
     have hwn : wrap64 (n : Int) = (n : Int) := IntWalk.wrap64_in _ (by omega)
     go_wp2_with fail
     go_ret3
     exact ⟨by first | rfl | (rw [hwn]; rfl), T0.out _ hS, T4.out _ hS⟩
 · have hi : (if er = 0 ∧ most < (n : Int) then (4 : Int) else er) = er := if_neg (fun h => he h.1)
   go_wp2_with fail
   go_ret3
   exact ⟨rfl, T0.out _ hS, T4.out _ hS⟩
def rCount (s : List UInt8) (r : Rs) (most : Int) : Int × Rs := r.step ((countP s r.pl most).1, (countP s r.pl most).2.1, ((countP s r.pl most).2.2 : Int)) 0
theorem countP_ok {s : List UInt8} {pl : Nat} {most : Int} (h : (countP s pl most).1 = 0) : ((countP s pl most).2.2 : Int) ≤ most := by
 unfold countP at h ⊢
 simp only at h ⊢
 by_cases hc : (getL (s.drop pl)).1 = 0 ∧ most < ((getL (s.drop pl)).2.1 : Int)
 · rw [if_pos hc] at h; exact absurd h (by decide)
 · rw [if_neg hc] at h
   exact Int.not_lt.1 (fun hl => hc ⟨h, hl⟩)
theorem step_wrap {r : Rs} {e : Int} {to : Nat} {x : Int} (h : e = 0 → wrap64 x = x) : r.step (e, to, wrap64 x) 0 = r.step (e, to, x) 0 := by
 unfold Rs.step Rs.move
 dsimp only
 by_cases h0 : r.er = 0
 · by_cases he : e = 0
   · rw [if_pos h0, if_pos he, h he]
   · rw [if_pos h0, if_neg he, if_neg he, if_neg he]
 · rw [if_neg h0, if_neg h0, if_neg h0]
set_option maxRecDepth 100000 in
set_option maxHeartbeats 4000000 in
theorem count2_any (g : Nat) (s : List UInt8) (r : Rs) (most : Int) (hp : r.pl ≤ s.length) (hs : s.length ≤ 1000000) (h0 : 0 ≤ most) (h1 : most ≤ 1048576) (w : World) (h : RdO w g s r) :
 Calls Tryz.prog 95 #[.pointer (some ⟨g, 0, none⟩), .int .i64 most] w fun e w' => e = .returned (.int .i64 (rCount s r most).1) ∧ RdO w' g s (rCount s r most).2 ∧ RdEff g w w' := by
 have HM := Lib.hid (count_any g s r most hp hs h0 h1 w h)
 have Hw : Hid (r.step ((countP s r.pl most).1, (countP s r.pl most).2.1, wrap64 ((countP s r.pl most).2.2 : Int)) 0 = rCount s r most) := Lib.hid (step_wrap (fun he => IntWalk.wrap64_in _ (by have := countP_ok he; omega)))
 clear hp hs h0 h1 h
 go_enter Tryz.func95, Tryz.ntmps95
 go_wp2_with fail
 refine HM.out.mono ?_
 rintro e w1 ⟨rfl, h, b1⟩
 go_wp2_with fail
 refine (tookI_any g s r _ _ _ w1 h).mono ?_
 rintro e w2 ⟨rfl, h2, o2⟩
 go_wp2_with fail
 go_ret
 rw [Hw.out] at h2
 exact ⟨by rw [← Hw.out]; rfl, h2, (RdEff.of_below b1).trans (RdEff.of_only o2)⟩
def rInt (s : List UInt8) (r : Rs) : Int × Rs := r.step ((getL (s.drop r.pl)).1, r.pl + (getL (s.drop r.pl)).2.2, zagZ (getL (s.drop r.pl)).2.1) 0
set_option maxRecDepth 100000 in
set_option maxHeartbeats 4000000 in
theorem rint_any (g : Nat) (s : List UInt8) (r : Rs) (hp : r.pl ≤ s.length) (hs : s.length ≤ 1000000) (w : World) (h : RdO w g s r) :
 Calls Tryz.prog 143 #[.pointer (some ⟨g, 0, none⟩)] w fun e w' => e = .returned (.int .i64 (rInt s r).1) ∧ RdO w' g s (rInt s r).2 ∧ RdEff g w w' := by
 have HM := Lib.hid (zigGet_any s r.pl hp hs)
 clear hp hs
 unfold rInt
 obtain ⟨⟨er, n, k⟩, hgl⟩ : ∃ p, p = getL (s.drop r.pl) := ⟨_, rfl⟩
 rw [← hgl] at HM ⊢
 clear hgl
 go_enter Tryz.func143, Tryz.ntmps143
 go_wp2_with fail
 obtain ⟨S, hSd⟩ : ∃ S, S = (fun W => RdO W g s r ∧ Below w.heap.size w W) := ⟨_, rfl⟩
 have stS : St S := by rw [hSd]; infer_instance
 have T0 : Hid (∀ W, S W → RdO W g s r) := by show ∀ W, _; rw [hSd]; exact fun W h => h.1
 have T4 : Hid (∀ W, S W → Below w.heap.size w W) := by show ∀ W, _; rw [hSd]; exact fun W h => h.2
 have hS : S w := by rw [hSd]; exact ⟨h, Below.refl _ _⟩
 clear hSd h
 refine region_hold S (by kernel_rfl) (by kernel_rfl) (St.drew hS) ?_
 clear hS
 iterate 4 (refine hold_value rfl ?_ (fun W hW => ?_) ?_; rotate_left; (focus (go_simp; exact rfl)); simp only [Act.put, List.setIfInBounds_toArray, List.set_cons_zero, List.set_cons_succ])
 (refine hold_value rfl ?_ (fun W hW => ?_) ?_; rotate_left; (focus (have c0 := Row.cellv (T0.out W hW) (i := 0) (v := .string ⟨s.toArray⟩) rfl; go_simp; exact rfl)); simp only [Act.put, List.setIfInBounds_toArray, List.set_cons_zero, List.set_cons_succ])
 iterate 4 (refine hold_value rfl ?_ (fun W hW => ?_) ?_; rotate_left; (focus (go_simp; exact rfl)); simp only [Act.put, List.setIfInBounds_toArray, List.set_cons_zero, List.set_cons_succ])
 (refine hold_value rfl ?_ (fun W hW => ?_) ?_; rotate_left; (focus (have c0 := Row.cellv (T0.out W hW) (i := 1) (v := .int .i64 (r.pl : Int)) rfl; go_simp; exact rfl)); simp only [Act.put, List.setIfInBounds_toArray, List.set_cons_zero, List.set_cons_succ])
 (refine hold_call_new rfl 176 _ (fun W => by (go_simp; try rfl)) (.tuple #[.int .i64 (zagZ n), .int .i64 ((r.pl + k : Nat) : Int), .int .i64 er]) (fun W hW => (HM.out W).mono fun e W' h => ⟨h.1, by rw [← h.2]; exact Below.refl _ _⟩) ?_; simp only [Act.put, List.setIfInBounds_toArray, List.set_cons_zero, List.set_cons_succ])
 iterate 7 (refine hold_value rfl ?_ (fun W hW => ?_) ?_; rotate_left; (focus (go_simp; exact rfl)); simp only [Act.put, List.setIfInBounds_toArray, List.set_cons_zero, List.set_cons_succ])
 refine wpHold_nil fun W hS => ?_
 go_wp2_with fail
 refine (tookI_any g s r _ (r.pl + k) _ W (T0.out _ hS)).mono ?_
 rintro e w2 ⟨rfl, h2, o2⟩
 go_wp2_with fail
 go_ret
 exact ⟨rfl, h2, (RdEff.of_below (T4.out _ hS)).trans (RdEff.of_only o2)⟩
def partP (s : List UInt8) (pl : Nat) (n : Nat) : Int × Nat × List UInt8 := if s.length < pl + n then (2, pl, []) else (0, pl + n, (s.drop pl).take n)
set_option maxRecDepth 100000 in
set_option maxHeartbeats 4000000 in
theorem rpart_any (g : Nat) (s : List UInt8) (r : Rs) (pl n : Nat) (hp : pl ≤ s.length) (hs : s.length ≤ 1000000) (hn : (n : Int) ≤ 1048576) (w : World) (h : RdO w g s r) :
 Calls Tryz.prog 175 #[.pointer (some ⟨g, 0, none⟩), .int .i64 (pl : Int), .int .i64 (n : Int)] w fun e w' => e = .returned (.tuple #[.string ⟨(partP s pl n).2.2.toArray⟩, .int .i64 ((partP s pl n).2.1 : Int), .int .i64 (partP s pl n).1]) ∧ w = w' := by
 have c0 := Row.cellv h (i := 0) (v := .string ⟨s.toArray⟩) rfl
 have hsz : (⟨s.toArray⟩ : ByteArray).size = s.length := by simp [ByteArray.size]
 have hpI : (pl : Int) ≤ (s.length : Int) := by omega
 have hsI : (s.length : Int) ≤ 1000000 := by omega
 by_cases hc : s.length < pl + n
 · rw [partP, if_pos hc]
   have hcI : (s.length : Int) - (pl : Int) < (n : Int) := by omega
   clear h hc hs hp
   go_enter Tryz.func175, Tryz.ntmps175
   go_wp2_with fail
   go_ret3
   exact ⟨rfl, rfl⟩
 · rw [partP, if_neg hc]
   have hcI : ¬ (s.length : Int) - (pl : Int) < (n : Int) := by omega
   have hext := str_ext s pl (pl + n)
   rw [show pl + n - pl = n by omega] at hext
   obtain ⟨m, hm⟩ : ∃ m : Nat, m = pl + n := ⟨_, rfl⟩
   rw [← hm] at hext ⊢
   have hmI : (pl : Int) + (n : Int) = (m : Int) := by omega
   have hmlt : (m : Int) ≤ (s.length : Int) := by omega
   have hpm : (pl : Int) ≤ (m : Int) := by omega
   clear h hc hs hp hm
   go_enter Tryz.func175, Tryz.ntmps175
   go_wp2_with fail
   go_ret3
   exact ⟨rfl, rfl⟩
def rRaw (s : List UInt8) (r : Rs) (n : Nat) : List UInt8 × Rs := r.step (partP s r.pl n) []
set_option maxRecDepth 100000 in
set_option maxHeartbeats 4000000 in
theorem rraw_any (g : Nat) (s : List UInt8) (r : Rs) (n : Nat) (hp : r.pl ≤ s.length) (hs : s.length ≤ 1000000) (hn : (n : Int) ≤ 1048576) (w : World) (h : RdO w g s r) :
 Calls Tryz.prog 144 #[.pointer (some ⟨g, 0, none⟩), .int .i64 (n : Int)] w fun e w' => e = .returned (.string ⟨(rRaw s r n).1.toArray⟩) ∧ RdO w' g s (rRaw s r n).2 ∧ RdEff g w w' := by
 have HM := Lib.hid (rpart_any g s r r.pl n hp hs hn w h)
 have c1 := Row.cellv h (i := 1) (v := .int .i64 (r.pl : Int)) rfl
 have hn0 : ¬ (n : Int) < 0 := by omega
 have HH := Lib.hid h
 clear hp hs h hn
 unfold rRaw
 obtain ⟨⟨er, to, x⟩, hgl⟩ : ∃ p, p = partP s r.pl n := ⟨_, rfl⟩
 rw [← hgl] at HM ⊢
 clear hgl
 go_enter Tryz.func144, Tryz.ntmps144
 go_wp2_with fail
 refine HM.out.mono ?_
 rintro e w1 ⟨rfl, rfl⟩
 go_wp2_with fail
 refine (tookS_any g s r x to er w HH.out).mono ?_
 rintro e w2 ⟨rfl, h2, o2⟩
 go_wp2_with fail
 go_ret
 exact ⟨rfl, h2, RdEff.of_only o2⟩
def rByte (s : List UInt8) (r : Rs) : Nat × Rs := (match (rRaw s r 1).1 with | [] => 0 | b :: _ => b.toNat, (rRaw s r 1).2)
theorem index0 {x : List UInt8} {b : UInt8} (W : World) : (Instr.index 9 (.string ⟨(b :: x).toArray⟩) (.int .i64 0)).run Tryz.prog W = .ok (.int .u8 (b.toNat : Int)) W := ix_str (s := b :: x) (i := 0) rfl W
set_option maxRecDepth 100000 in
set_option maxHeartbeats 4000000 in
theorem rbyte_any (g : Nat) (s : List UInt8) (r : Rs) (hp : r.pl ≤ s.length) (hs : s.length ≤ 1000000) (w : World) (h : RdO w g s r) :
 Calls Tryz.prog 142 #[.pointer (some ⟨g, 0, none⟩)] w fun e w' => e = .returned (.int .u8 ((rByte s r).1 : Int)) ∧ RdO w' g s (rByte s r).2 ∧ RdEff g w w' := by
 have HM := Lib.hid (rraw_any g s r 1 hp hs (by decide) w h)
 clear hp hs h
 unfold rByte
 obtain ⟨⟨x, r2⟩, hgl⟩ : ∃ p, p = rRaw s r 1 := ⟨_, rfl⟩
 rw [← hgl] at HM ⊢
 clear hgl
 cases x with
 | nil =>
  go_enter Tryz.func142, Tryz.ntmps142
  go_wp2_with fail
  refine HM.out.mono ?_
  rintro e w1 ⟨rfl, h1, e1⟩
  go_wp2_with fail
  go_ret
  exact ⟨rfl, h1, e1⟩
 | cons b x =>
  have hne : ¬ (⟨(b :: x).toArray⟩ : ByteArray) = ⟨#[]⟩ := fun e => by injection e with e; simp at e
  have hix := index0 (x := x) (b := b)
  go_enter Tryz.func142, Tryz.ntmps142
  go_wp2_with fail
  refine HM.out.mono ?_
  rintro e w1 ⟨rfl, h1, e1⟩
  go_wp2_with fail
  go_ret
  exact ⟨rfl, h1, e1⟩
def rText (s : List UInt8) (r : Rs) (most : Int) : List UInt8 × Rs :=
 if (countP s r.pl most).1 = 0 then r.step (partP s (countP s r.pl most).2.1 (countP s r.pl most).2.2) [] else r.step ((countP s r.pl most).1, (countP s r.pl most).2.1, []) []
theorem countP_pl {s : List UInt8} {pl : Nat} (most : Int) (h : pl ≤ s.length) : (countP s pl most).2.1 ≤ s.length := by
 unfold countP
 have := getL_len (s.drop pl)
 simp only [List.length_drop] at this ⊢
 omega
set_option maxRecDepth 100000 in
set_option maxHeartbeats 4000000 in
theorem rtext_any (g : Nat) (s : List UInt8) (r : Rs) (most : Int) (hp : r.pl ≤ s.length) (hs : s.length ≤ 1000000) (h0 : 0 ≤ most) (h1 : most ≤ 1048576) (w : World) (h : RdO w g s r) :
 Calls Tryz.prog 141 #[.pointer (some ⟨g, 0, none⟩), .int .i64 most] w fun e w' => e = .returned (.string ⟨(rText s r most).1.toArray⟩) ∧ RdO w' g s (rText s r most).2 ∧ RdEff g w w' := by
 have HM := Lib.hid (count_any g s r most hp hs h0 h1 w h)
 have Hpl := Lib.hid (countP_pl most hp)
 have Hok := Lib.hid (fun h => countP_ok (s := s) (pl := r.pl) (most := most) h)
 have Hs := Lib.hid hs
 have H1 := Lib.hid h1
 clear hp hs h h1
 unfold rText
 obtain ⟨⟨er, to, n⟩, hgl⟩ : ∃ p, p = countP s r.pl most := ⟨_, rfl⟩
 rw [← hgl] at HM Hpl Hok ⊢
 clear hgl
 by_cases he : er = 0
 · subst he
   have hle : (n : Int) ≤ most := Hok.out rfl
   have hle2 : (n : Int) ≤ 1048576 := Int.le_trans hle H1.out
   have hwn : wrap64 (n : Int) = (n : Int) := IntWalk.wrap64_in _ (by omega)
   rw [if_pos rfl]
   rw [hwn] at HM
   obtain ⟨⟨e2, to2, x⟩, hpl⟩ : ∃ p, p = partP s to n := ⟨_, rfl⟩
   have HP := Lib.hid (fun w => rpart_any g s r to n Hpl.out Hs.out hle2 w)
   rw [← hpl] at HP ⊢
   clear hpl hwn hle hle2 Hok
   go_enter Tryz.func141, Tryz.ntmps141
   go_wp2_with fail
   refine HM.out.mono ?_
   rintro e w1 ⟨rfl, h1, b1⟩
   go_wp2_with fail
   refine (HP.out w1 h1).mono ?_
   rintro e w2 ⟨rfl, rfl⟩
   go_wp2_with fail
   refine (tookS_any g s r x to2 e2 w1 h1).mono ?_
   rintro e w2 ⟨rfl, h2, o2⟩
   go_wp2_with fail
   go_ret
   exact ⟨rfl, h2, (RdEff.of_below b1).trans (RdEff.of_only o2)⟩
 · rw [if_neg he]
   clear Hok
   go_enter Tryz.func141, Tryz.ntmps141
   go_wp2_with fail
   refine HM.out.mono ?_
   rintro e w1 ⟨rfl, h1, b1⟩
   go_wp2_with fail
   refine (tookS_any g s r [] to er w1 h1).mono ?_
   rintro e w2 ⟨rfl, h2, o2⟩
   go_wp2_with fail
   go_ret
   exact ⟨rfl, h2, (RdEff.of_below b1).trans (RdEff.of_only o2)⟩
def rdEnd (s : List UInt8) (r : Rs) : Int := if r.er = 0 ∧ r.pl < s.length then 5 else r.er
set_option maxRecDepth 100000 in
set_option maxHeartbeats 4000000 in
theorem rend_any (g : Nat) (s : List UInt8) (r : Rs) (w : World) (h : RdO w g s r) :
 Calls Tryz.prog 96 #[.pointer (some ⟨g, 0, none⟩)] w fun e w' => e = .returned (.int .i64 (rdEnd s r)) ∧ Below w.heap.size w w' ∧ RdO w' g s r := by
 have hsz : (⟨s.toArray⟩ : ByteArray).size = s.length := by simp [ByteArray.size]
 obtain ⟨pl, er⟩ := r
 have c0 := Row.cellv h (i := 0) (v := .string ⟨s.toArray⟩) rfl
 have c1 := Row.cellv h (i := 1) (v := .int .i64 (pl : Int)) rfl
 have c2 := Row.cellv h (i := 2) (v := .int .i64 er) rfl
 unfold rdEnd
 by_cases he : er = 0
 · subst he
   by_cases hl : pl < s.length
   · have hlI : (pl : Int) < (s.length : Int) := by omega
     rw [if_pos ⟨rfl, hl⟩]
     go_enter Tryz.func96, Tryz.ntmps96
     go_wp2_with fail
     go_quiet (fail)
     go_wp2_with fail
     go_ret
     exact ⟨rfl, below_drewN (Below.refl _ _) _, h⟩
   · have hlI : ¬ (pl : Int) < (s.length : Int) := by omega
     rw [if_neg (fun h => hl h.2)]
     go_enter Tryz.func96, Tryz.ntmps96
     go_wp2_with fail
     go_quiet (fail)
     go_wp2_with fail
     go_ret
     exact ⟨rfl, below_drewN (Below.refl _ _) _, h⟩
 · rw [if_neg (fun h => he h.1)]
   go_enter Tryz.func96, Tryz.ntmps96
   go_wp2_with fail
   go_quiet (fail)
   go_wp2_with fail
   go_ret
   exact ⟨rfl, below_drewN (Below.refl _ _) _, h⟩
set_option maxRecDepth 100000 in
theorem wireOf_any (s : List UInt8) (w : World) :
 Calls Tryz.prog 94 #[.string ⟨s.toArray⟩] w fun e w' => e = .returned (.pointer (some ⟨w.heap.size, 0, none⟩)) ∧ RdO w' w.heap.size s ⟨0, 0⟩ ∧ Below w.heap.size w w' := by
 go_enter Tryz.func94, Tryz.ntmps94
 go_wp2
 go_ret
 exact ⟨rfl, Row.new _ _ _, (Below.refl _ _).alloc (Nat.le_refl _) _⟩
end Go.Proofs.YtcgglolckkeeiaaGreat
namespace Go.Proofs.YtcgglolckkeeiaaGreat
open Go.RowKit
def farZ (n : Int) : Bool := decide (n < 0) || decide (200 ≤ n)
def rightDl (d : Dl) : Bool := decide (d.path.length ≤ 30) && !(d.path.any farZ) && decide (1 ≤ d.op) && decide (d.op ≤ 7)
def pathB (l : List Int) : List UInt8 := l.flatMap fun n => lebL n.toNat
def encDl (d : Dl) : List UInt8 := lebL d.path.length ++ pathB d.path ++ [UInt8.ofNat d.op.toNat] ++ zz d.n
def putDl (d : Dl) : List UInt8 × Int := if rightDl d = true then (encDl d, 0) else ([], 17)
theorem rightDl_iff {d : Dl} : rightDl d = true ↔ d.path.length ≤ 30 ∧ (∀ n ∈ d.path, 0 ≤ n ∧ n < 200) ∧ 1 ≤ d.op ∧ d.op ≤ 7 := by
 unfold rightDl farZ
 simp only [Bool.and_eq_true, decide_eq_true_eq, Bool.not_eq_true', List.any_eq_false, Bool.or_eq_true, not_or, Int.not_lt, Int.not_le, and_assoc]
theorem pathB_len' (l : List Int) : (pathB l).length ≤ 10 * l.length := by
 induction l with
 | nil => simp [pathB]
 | cons a l ih =>
  have h2 := lebL_len a.toNat
  simp only [pathB, List.flatMap_cons, List.length_append, List.length_cons] at ih ⊢
  omega
theorem pathB_snoc (l : List Int) (n : Int) : pathB (l ++ [n]) = pathB l ++ lebL n.toNat := by simp [pathB]
theorem encDl_len {d : Dl} (h : rightDl d = true) : (encDl d).length ≤ 321 := by
 obtain ⟨h1, _⟩ := rightDl_iff.1 h
 have := pathB_len' d.path
 have h3 := lebL_len d.path.length
 have h4 := zz_len d.n
 simp only [encDl, List.length_append, List.length_cons, List.length_nil]
 omega
end Go.Proofs.YtcgglolckkeeiaaGreat
