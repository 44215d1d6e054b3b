/- Lemmas for CmAll. -/
import Derived.Test.YtcgglolckkeeiaaGreatZm24
import Derived.Test.YtcgglolckkeeiaaGreatZm12
namespace Go.Proofs.YtcgglolckkeeiaaGreat
set_option linter.unusedVariables false
open Go.RowKit Go.Deep
noncomputable def cpCheckZ (c : CpV) : Int := orL [unlessZ (checkP c.p == 0) 23, suiteZ c.p.params c.testsL c.fuel, unlessZ (decide ((c.mts.length : Int) ≤ 2000)) 24, unlessZ (riseB c.muts) 20, unlessZ (!c.mts.any fun x => !inP c.p x.m.d) 17, unlessZ (!c.mts.any fun x => oddZ c.tests.length x.m) 21, unlessZ (scB c.sc (scoreZ c.muts)) 22]
theorem orL_zero {l : List Int} (h : ∀ (j : Nat) (x : Int), l[j]? = some x → x = 0) : orL l = 0 := by
 induction l with
 | nil => rfl
 | cons a l ih =>
  have h0 : a = 0 := h 0 a rfl
  rw [orL, if_pos h0]
  exact ih fun j x hx => h (j + 1) x (by simpa using hx)
theorem orL_first : ∀ {l : List Int} {k : Nat} {e : Int}, (∀ j, j < k → l[j]? = some 0) → l[k]? = some e → e ≠ 0 → orL l = e
 | [], _, _, _, h, _ => by simp at h
 | a :: l, 0, e, _, h, hne => by
  simp at h
  rw [orL, h, if_neg hne]
 | a :: l, k + 1, e, hz, h, hne => by
  have h0 : a = 0 := by have := hz 0 (by omega); simpa using this
  rw [orL, if_pos h0]
  exact orL_first (k := k) (fun j hj => by have := hz (j + 1) (by omega); simpa using this) (by simpa using h) hne
theorem zero_fm (w : World) : (zeroValue 98).run Tryz.prog w = .ok .nilFunc w := by kernel_rfl
theorem zero_ld (w : World) : (zeroValue 94).run Tryz.prog w = .ok (.slice none 0 0) w := by kernel_rfl
theorem zero_f7 (w : World) : (zeroValue 104).run Tryz.prog w = .ok (.agg #[.nilFunc, .nilFunc, .nilFunc, .nilFunc, .nilFunc, .nilFunc, .nilFunc]) w := by kernel_rfl
set_option maxRecDepth 100000 in
set_option maxHeartbeats 8000000 in
theorem cpCheck_any (c : CpV) (w : World) (hc : CpOk w c) :
 Calls Tryz.prog 26 #[.agg c.cells] w fun e w' => e = .returned (.int .i64 (cpCheckZ c)) ∧ Below w.heap.size w w' := by
 have Hc := Lib.hid hc
 obtain ⟨z, hz⟩ : ∃ z, z = cpCheckZ c := ⟨_, rfl⟩
 rw [← hz]
 have Hzz := Lib.hid hz
 clear hc hz
 go_enter Tryz.func26, Tryz.ntmps26
 go_wp2_with (refine at_box _ _ rfl ?_)
 refine Stop.to ?_
 refine wpList_box_gen rfl 31 _ rfl c.cells rfl ?_
 intro C Cw Ch Cr Cb
 have b1 := (Below.refl w.heap.size w).trans (Cb.mono Ch)
 have Hc1 := Lib.hid (Hc.out.go b1)
 have Hs := Lib.hid (sitesAll_any c.p Hc1.out.bl Cw Hc1.out.pok)
 clear Cb Ch Hc
 go_wp2_with fail
 go_step3
 go_wp2_with (refine wpList_load_at rfl 25 _ rfl ⟨C, 0, none⟩ rfl c.p.cells.toList _ (cp_head Cr) Tryz.underlying25 rfl (by kernel_rfl) ?_)
 refine Hs.out.mono ?_
 rintro e w1 ⟨A, cap, xs, rfl, hrd, hcap, hnil, hok, hfine, hno, hxl, b2⟩
 replace Cr := Cr.below b2 Cr.lt
 replace b1 := b1.trans (b2.mono b1.size)
 replace Hc1 := Lib.hid (Hc1.out.go b2)
 have hrise : riseD (xs.map DlV.d) := by
  by_cases h : checkP c.p = 0
  · obtain ⟨t, ht⟩ := checkP_ok.1 h
    rw [hfine t ht]; exact allZ_rise _ _
  · rw [hno h]; trivial
 have hin : checkP c.p = 0 → ∀ d, hasD (xs.map DlV.d) d = inP c.p d := fun h d => by
  obtain ⟨t, ht⟩ := checkP_ok.1 h
  rw [Bool.eq_iff_iff, hasD_iff, inP_fine ht, hfine t ht]
 obtain ⟨es, hes⟩ : ∃ es, es = [unlessZ (checkP c.p == 0) 23, suiteZ c.p.params c.testsL c.fuel, unlessZ (decide ((c.mts.length : Int) ≤ 2000)) 24, unlessZ (riseB c.muts) 20, unlessZ (!c.mts.any fun x => !hasD (xs.map DlV.d) x.m.d) 17, unlessZ (!c.mts.any fun x => oddZ c.tests.length x.m) 21, unlessZ (scB c.sc (scoreZ c.muts)) 22] := ⟨_, rfl⟩
 have hfin : cpCheckZ c = orL es := by
  by_cases h : checkP c.p = 0
  · rw [hes]; unfold cpCheckZ
    simp only [hin h]
  · rw [hes]; unfold cpCheckZ
    have hu : unlessZ (checkP c.p == 0) 23 = 23 := by unfold unlessZ; rw [if_neg (by simpa using h)]
    rw [orL_first (k := 0) (e := 23) (fun j hj => by omega) (by rw [hu]; rfl) (by omega), orL_first (k := 0) (e := 23) (fun j hj => by omega) (by rw [hu]; rfl) (by omega)]
 replace Hzz := Lib.hid (Hzz.out.trans hfin)
 have Hes := Lib.hid hes
 have Hrd := Lib.hid hrd
 have Hok := Lib.hid hok
 have Hxl := Lib.hid hxl
 have Hrise := Lib.hid hrise
 clear b2 Hs hrd hcap hnil hok hfine hno hxl hrise hin hes hfin
 go_wp2_with (refine at_alloc _ rfl ?_)
 refine Stop.to ?_
 refine wpList_alloc_gen rfl 94 rfl _ _ (zero_ld _) rfl ?_
 intro L Lw Lh Lr Lb
 go_wp2_with (refine at_store _ _ _ rfl ?_)
 refine Stop.to ?_
 refine wpList_store_part rfl 94 _ _ rfl L 0 rfl (.slice A xs.length cap) rfl [.slice A xs.length cap] rfl 94 _ #[.slice A xs.length cap] Lr (by kernel_rfl) (by show 0 + 1 ≤ 1; omega) (by simp [Value.oneCell']) rfl ?_
 intro Lx Ls Lo
 have Lc := (Lb.mono Lh).trans (Lo.below Lh)
 clear Lb Lr Lo
 replace Cr := Cr.below Lc Cr.lt
 replace Hrd := Lib.hid (Hrd.out.go Lc)
 replace Hok := Lib.hid (fun y hy => (Hok.out y hy).go Lc)
 replace Hc1 := Lib.hid (Hc1.out.go Lc)
 replace b1 := b1.trans (Lc.mono b1.size)
 clear Lc Lh
 go_wp2_with (refine at_alloc _ rfl ?_)
 refine Stop.to ?_
 refine wpList_alloc_gen rfl 98 rfl _ _ (zero_fm _) rfl ?_
 intro F Fw Fh Fr Fb
 go_wp2_with (refine at_store _ _ _ rfl ?_)
 refine Stop.to ?_
 refine wpList_store_part rfl 98 _ _ rfl F 0 rfl (.func (.func 63) #[] #[.pointer (some ⟨L, 0, none⟩)]) rfl [.func (.func 63) #[] #[.pointer (some ⟨L, 0, none⟩)]] rfl 98 _ #[.func (.func 63) #[] #[.pointer (some ⟨L, 0, none⟩)]] Fr (by kernel_rfl) (by show 0 + 1 ≤ 1; omega) (by simp [Value.oneCell']) rfl ?_
 intro Fx Fs Fo
 have Fc := (Fb.mono Fh).trans (Fo.below Fh)
 clear Fb Fr Fo
 replace Cr := Cr.below Fc Cr.lt
 replace Ls := Ls.below Fc Ls.lt
 replace Hrd := Lib.hid (Hrd.out.go Fc)
 replace Hok := Lib.hid (fun y hy => (Hok.out y hy).go Fc)
 replace Hc1 := Lib.hid (Hc1.out.go Fc)
 replace b1 := b1.trans (Fc.mono b1.size)
 clear Fc Fh
 go_wp2_with (refine at_alloc _ rfl ?_)
 refine Stop.to ?_
 refine wpList_alloc_gen rfl 98 rfl _ _ (zero_fm _) rfl ?_
 intro O Ow Oh Or Ob
 go_wp2_with (refine at_store _ _ _ rfl ?_)
 refine Stop.to ?_
 refine wpList_store_part rfl 98 _ _ rfl O 0 rfl (.func (.func 65) #[] #[.pointer (some ⟨C, 0, none⟩)]) rfl [.func (.func 65) #[] #[.pointer (some ⟨C, 0, none⟩)]] rfl 98 _ #[.func (.func 65) #[] #[.pointer (some ⟨C, 0, none⟩)]] Or (by kernel_rfl) (by show 0 + 1 ≤ 1; omega) (by simp [Value.oneCell']) rfl ?_
 intro Ox Os Oo
 have Oc := (Ob.mono Oh).trans (Oo.below Oh)
 clear Ob Or Oo
 replace Cr := Cr.below Oc Cr.lt
 replace Ls := Ls.below Oc Ls.lt
 replace Fs := Fs.below Oc Fs.lt
 replace Hrd := Lib.hid (Hrd.out.go Oc)
 replace Hok := Lib.hid (fun y hy => (Hok.out y hy).go Oc)
 replace Hc1 := Lib.hid (Hc1.out.go Oc)
 replace b1 := b1.trans (Oc.mono b1.size)
 clear Oc Oh
 go_wp2_with (first | fail | (refine at_alloc _ rfl ?_))
 refine Stop.to ?_
 refine wpList_alloc_gen rfl 104 rfl _ _ (zero_f7 _) rfl ?_
 intro M Mw Mh Mr Mb
 go_wp2_with (refine at_store _ _ _ rfl ?_)
 refine Stop.to ?_
 refine wpList_store_gen rfl 104 _ _ rfl M #[.func (.func 67) #[] #[.pointer (some ⟨C, 0, none⟩)], .func (.func 70) #[] #[.pointer (some ⟨C, 0, none⟩)], .func (.func 72) #[] #[.pointer (some ⟨C, 0, none⟩)], .func (.func 73) #[] #[.pointer (some ⟨C, 0, none⟩)], .func (.func 75) #[] #[.pointer (some ⟨C, 0, none⟩), .pointer (some ⟨F, 0, none⟩)], .func (.func 77) #[] #[.pointer (some ⟨C, 0, none⟩), .pointer (some ⟨O, 0, none⟩)], .func (.func 78) #[] #[.pointer (some ⟨C, 0, none⟩)]] rfl rfl 104 _ Mr (by kernel_rfl) rfl (by simp [Value.oneCell']) ?_
 intro Mx Ms Mo
 have Mc := (Mb.mono Mh).trans (Mo.below Mh)
 clear Mb Mr Mo
 replace Cr := Cr.below Mc Cr.lt
 replace Ls := Ls.below Mc Ls.lt
 replace Fs := Fs.below Mc Fs.lt
 replace Os := Os.below Mc Os.lt
 replace Hrd := Lib.hid (Hrd.out.go Mc)
 replace Hok := Lib.hid (fun y hy => (Hok.out y hy).go Mc)
 replace Hc1 := Lib.hid (Hc1.out.go Mc)
 replace b1 := b1.trans (Mc.mono b1.size)
 clear Mc Mh
 obtain ⟨S, hSd⟩ : ∃ S, S = (fun W => (Row W C 31 c.cells ∧ Row W L 94 #[.slice A xs.length cap] ∧ Row W F 98 #[.func (.func 63) #[] #[.pointer (some ⟨L, 0, none⟩)]] ∧ Row W O 98 #[.func (.func 65) #[] #[.pointer (some ⟨C, 0, none⟩)]]) ∧ (Rd W A (dlsC xs) ∧ (∀ y ∈ xs, DlT W y) ∧ CpOk W c) ∧ Below w.heap.size w W) := ⟨_, rfl⟩
 have stS : St S := by rw [hSd]; infer_instance
 have Hs : Hid (∀ W, S W → (Row W C 31 c.cells ∧ Row W L 94 #[.slice A xs.length cap] ∧ Row W F 98 #[.func (.func 63) #[] #[.pointer (some ⟨L, 0, none⟩)]] ∧ Row W O 98 #[.func (.func 65) #[] #[.pointer (some ⟨C, 0, none⟩)]]) ∧ (Rd W A (dlsC xs) ∧ (∀ y ∈ xs, DlT W y) ∧ CpOk W c)) := by show ∀ W, _; rw [hSd]; exact fun W h => ⟨h.1, h.2.1⟩
 have Hlo : Hid (∀ W, S W → Below w.heap.size w W) := by show ∀ W, _; rw [hSd]; exact fun W h => h.2.2
 have hS : S Mx := by rw [hSd]; exact ⟨⟨Cr, Ls, Fs, Os⟩, ⟨Hrd.out, Hok.out, Hc1.out⟩, b1⟩
 clear hSd Cr Ls Fs Os Hrd Hok Hc1 b1
 go_wp2_with fail
 go_step3
 go_wp2_with (refine wpList_load_row rfl 104 _ rfl M rfl 104 #[.func (.func 67) #[] #[.pointer (some ⟨C, 0, none⟩)], .func (.func 70) #[] #[.pointer (some ⟨C, 0, none⟩)], .func (.func 72) #[] #[.pointer (some ⟨C, 0, none⟩)], .func (.func 73) #[] #[.pointer (some ⟨C, 0, none⟩)], .func (.func 75) #[] #[.pointer (some ⟨C, 0, none⟩), .pointer (some ⟨F, 0, none⟩)], .func (.func 77) #[] #[.pointer (some ⟨C, 0, none⟩), .pointer (some ⟨O, 0, none⟩)], .func (.func 78) #[] #[.pointer (some ⟨C, 0, none⟩)]] (0, 0) _ Ms Tryz.underlying104 rfl (by kernel_rfl) ?_)
 clear Ms
 go_loopw [8, 28] (fun e i wr => ∃ k : Nat, e = .int .i64 0 ∧ i = .int .i64 (k : Int) ∧ k ≤ 7 ∧ Hid (∀ j : Nat, j < k → es[j]? = some 0) ∧ S wr) (fun _ i _ => 7 - (intOf i).toNat)
 case atStart => exact ⟨0, rfl, rfl, Nat.zero_le _, Lib.hid (fun j hj => by omega), hS⟩
 case round =>
  clear hS
  obtain ⟨k, rfl, rfl, hk, Hz, hS⟩ := hrel
  have hk8 : k = 0 ∨ k = 1 ∨ k = 2 ∨ k = 3 ∨ k = 4 ∨ k = 5 ∨ k = 6 ∨ k = 7 := by omega
  clear hk
  rcases hk8 with rfl | rfl | rfl | rfl | rfl | rfl | rfl | rfl
  · skip
    have H1 := Lib.hid (ckC3_any C c wr (Hs.out _ hS).1.1 (Hs.out _ hS).2.2.2)
    have hix : ∀ w : World, (Instr.index 104 (.agg #[.func (.func 67) #[] #[.pointer (some ⟨C, 0, none⟩)], .func (.func 70) #[] #[.pointer (some ⟨C, 0, none⟩)], .func (.func 72) #[] #[.pointer (some ⟨C, 0, none⟩)], .func (.func 73) #[] #[.pointer (some ⟨C, 0, none⟩)], .func (.func 75) #[] #[.pointer (some ⟨C, 0, none⟩), .pointer (some ⟨F, 0, none⟩)], .func (.func 77) #[] #[.pointer (some ⟨C, 0, none⟩), .pointer (some ⟨O, 0, none⟩)], .func (.func 78) #[] #[.pointer (some ⟨C, 0, none⟩)]]) (.int .i64 0)).run Tryz.prog w = .ok (.func (.func 67) #[] #[.pointer (some ⟨C, 0, none⟩)]) w := fun _ => by kernel_rfl
    go_wp2_with fail
    refine H1.out.mono ?_
    rintro e w' ⟨rfl, b1⟩
    replace hS := stS.go hS b1
    clear H1 b1
    obtain ⟨v, hv⟩ : ∃ v, v = unlessZ (checkP c.p == 0) 23 := ⟨_, rfl⟩
    have hget : es[0]? = some v := by rw [Hes.out, hv]; rfl
    rw [← hv]
    clear hv
    by_cases he : v = 0
    · have he' : (v != 0) = false := by simp [he]
      have Hz2 : Hid (∀ j : Nat, j < 0 + 1 → es[j]? = some 0) := fun j hj => by
       by_cases hj2 : j < 0
       · exact Hz.out j hj2
       · obtain rfl : j = 0 := by omega
         rw [hget, he]
      subst he
      clear hget Hz
      go_wp2_with fail
      exact ⟨⟨0 + 1, by simp, by simp, by omega, Hz2, hS⟩, by simp [intOf]⟩
    · have he' : (v != 0) = true := by simpa using he
      have Hf : Hid (orL es = v) := orL_first Hz.out hget he
      clear hget he Hz
      go_wp2_with fail
      try rw [Exit.noGoto_ret]
      go_ret
      exact ⟨ret_i' (Hzz.out.trans Hf.out).symm, Hlo.out _ hS⟩
  · skip
    have H1 := Lib.hid (ckC4_any C c wr (Hs.out _ hS).1.1 (Hs.out _ hS).2.2.2)
    have hix : ∀ w : World, (Instr.index 104 (.agg #[.func (.func 67) #[] #[.pointer (some ⟨C, 0, none⟩)], .func (.func 70) #[] #[.pointer (some ⟨C, 0, none⟩)], .func (.func 72) #[] #[.pointer (some ⟨C, 0, none⟩)], .func (.func 73) #[] #[.pointer (some ⟨C, 0, none⟩)], .func (.func 75) #[] #[.pointer (some ⟨C, 0, none⟩), .pointer (some ⟨F, 0, none⟩)], .func (.func 77) #[] #[.pointer (some ⟨C, 0, none⟩), .pointer (some ⟨O, 0, none⟩)], .func (.func 78) #[] #[.pointer (some ⟨C, 0, none⟩)]]) (.int .i64 1)).run Tryz.prog w = .ok (.func (.func 70) #[] #[.pointer (some ⟨C, 0, none⟩)]) w := fun _ => by kernel_rfl
    go_wp2_with fail
    refine H1.out.mono ?_
    rintro e w' ⟨rfl, b1⟩
    replace hS := stS.go hS b1
    clear H1 b1
    obtain ⟨v, hv⟩ : ∃ v, v = suiteZ c.p.params c.testsL c.fuel := ⟨_, rfl⟩
    have hget : es[1]? = some v := by rw [Hes.out, hv]; rfl
    rw [← hv]
    clear hv
    by_cases he : v = 0
    · have he' : (v != 0) = false := by simp [he]
      have Hz2 : Hid (∀ j : Nat, j < 1 + 1 → es[j]? = some 0) := fun j hj => by
       by_cases hj2 : j < 1
       · exact Hz.out j hj2
       · obtain rfl : j = 1 := by omega
         rw [hget, he]
      subst he
      clear hget Hz
      go_wp2_with fail
      exact ⟨⟨1 + 1, by simp, by simp, by omega, Hz2, hS⟩, by simp [intOf]⟩
    · have he' : (v != 0) = true := by simpa using he
      have Hf : Hid (orL es = v) := orL_first Hz.out hget he
      clear hget he Hz
      go_wp2_with fail
      try rw [Exit.noGoto_ret]
      go_ret
      exact ⟨ret_i' (Hzz.out.trans Hf.out).symm, Hlo.out _ hS⟩
  · skip
    have H1 := Lib.hid (ckC5_any C c wr (Hs.out _ hS).1.1)
    have hix : ∀ w : World, (Instr.index 104 (.agg #[.func (.func 67) #[] #[.pointer (some ⟨C, 0, none⟩)], .func (.func 70) #[] #[.pointer (some ⟨C, 0, none⟩)], .func (.func 72) #[] #[.pointer (some ⟨C, 0, none⟩)], .func (.func 73) #[] #[.pointer (some ⟨C, 0, none⟩)], .func (.func 75) #[] #[.pointer (some ⟨C, 0, none⟩), .pointer (some ⟨F, 0, none⟩)], .func (.func 77) #[] #[.pointer (some ⟨C, 0, none⟩), .pointer (some ⟨O, 0, none⟩)], .func (.func 78) #[] #[.pointer (some ⟨C, 0, none⟩)]]) (.int .i64 2)).run Tryz.prog w = .ok (.func (.func 72) #[] #[.pointer (some ⟨C, 0, none⟩)]) w := fun _ => by kernel_rfl
    go_wp2_with fail
    refine H1.out.mono ?_
    rintro e w' ⟨rfl, b1⟩
    replace hS := stS.go hS b1
    clear H1 b1
    obtain ⟨v, hv⟩ : ∃ v, v = unlessZ (decide ((c.mts.length : Int) ≤ 2000)) 24 := ⟨_, rfl⟩
    have hget : es[2]? = some v := by rw [Hes.out, hv]; rfl
    rw [← hv]
    clear hv
    by_cases he : v = 0
    · have he' : (v != 0) = false := by simp [he]
      have Hz2 : Hid (∀ j : Nat, j < 2 + 1 → es[j]? = some 0) := fun j hj => by
       by_cases hj2 : j < 2
       · exact Hz.out j hj2
       · obtain rfl : j = 2 := by omega
         rw [hget, he]
      subst he
      clear hget Hz
      go_wp2_with fail
      exact ⟨⟨2 + 1, by simp, by simp, by omega, Hz2, hS⟩, by simp [intOf]⟩
    · have he' : (v != 0) = true := by simpa using he
      have Hf : Hid (orL es = v) := orL_first Hz.out hget he
      clear hget he Hz
      go_wp2_with fail
      try rw [Exit.noGoto_ret]
      go_ret
      exact ⟨ret_i' (Hzz.out.trans Hf.out).symm, Hlo.out _ hS⟩
  · skip
    have H1 := Lib.hid (ckC6_any C c wr (Hs.out _ hS).1.1 (Hs.out _ hS).2.2.2)
    have hix : ∀ w : World, (Instr.index 104 (.agg #[.func (.func 67) #[] #[.pointer (some ⟨C, 0, none⟩)], .func (.func 70) #[] #[.pointer (some ⟨C, 0, none⟩)], .func (.func 72) #[] #[.pointer (some ⟨C, 0, none⟩)], .func (.func 73) #[] #[.pointer (some ⟨C, 0, none⟩)], .func (.func 75) #[] #[.pointer (some ⟨C, 0, none⟩), .pointer (some ⟨F, 0, none⟩)], .func (.func 77) #[] #[.pointer (some ⟨C, 0, none⟩), .pointer (some ⟨O, 0, none⟩)], .func (.func 78) #[] #[.pointer (some ⟨C, 0, none⟩)]]) (.int .i64 3)).run Tryz.prog w = .ok (.func (.func 73) #[] #[.pointer (some ⟨C, 0, none⟩)]) w := fun _ => by kernel_rfl
    go_wp2_with fail
    refine H1.out.mono ?_
    rintro e w' ⟨rfl, b1⟩
    replace hS := stS.go hS b1
    clear H1 b1
    obtain ⟨v, hv⟩ : ∃ v, v = unlessZ (riseB c.muts) 20 := ⟨_, rfl⟩
    have hget : es[3]? = some v := by rw [Hes.out, hv]; rfl
    rw [← hv]
    clear hv
    by_cases he : v = 0
    · have he' : (v != 0) = false := by simp [he]
      have Hz2 : Hid (∀ j : Nat, j < 3 + 1 → es[j]? = some 0) := fun j hj => by
       by_cases hj2 : j < 3
       · exact Hz.out j hj2
       · obtain rfl : j = 3 := by omega
         rw [hget, he]
      subst he
      clear hget Hz
      go_wp2_with fail
      exact ⟨⟨3 + 1, by simp, by simp, by omega, Hz2, hS⟩, by simp [intOf]⟩
    · have he' : (v != 0) = true := by simpa using he
      have Hf : Hid (orL es = v) := orL_first Hz.out hget he
      clear hget he Hz
      go_wp2_with fail
      try rw [Exit.noGoto_ret]
      go_ret
      exact ⟨ret_i' (Hzz.out.trans Hf.out).symm, Hlo.out _ hS⟩
  · skip
    have H1 := Lib.hid (ckC7_any C F L c A cap xs wr (Hs.out _ hS).1.1 (Hs.out _ hS).2.2.2 (Hs.out _ hS).1.2.2.1 (Hs.out _ hS).1.2.1 (Hs.out _ hS).2.1 (by have := Hxl.out; omega) (Hs.out _ hS).2.2.1 Hrise.out)
    have hix : ∀ w : World, (Instr.index 104 (.agg #[.func (.func 67) #[] #[.pointer (some ⟨C, 0, none⟩)], .func (.func 70) #[] #[.pointer (some ⟨C, 0, none⟩)], .func (.func 72) #[] #[.pointer (some ⟨C, 0, none⟩)], .func (.func 73) #[] #[.pointer (some ⟨C, 0, none⟩)], .func (.func 75) #[] #[.pointer (some ⟨C, 0, none⟩), .pointer (some ⟨F, 0, none⟩)], .func (.func 77) #[] #[.pointer (some ⟨C, 0, none⟩), .pointer (some ⟨O, 0, none⟩)], .func (.func 78) #[] #[.pointer (some ⟨C, 0, none⟩)]]) (.int .i64 4)).run Tryz.prog w = .ok (.func (.func 75) #[] #[.pointer (some ⟨C, 0, none⟩), .pointer (some ⟨F, 0, none⟩)]) w := fun _ => by kernel_rfl
    go_wp2_with fail
    refine H1.out.mono ?_
    rintro e w' ⟨rfl, b1⟩
    replace hS := stS.go hS b1
    clear H1 b1
    obtain ⟨v, hv⟩ : ∃ v, v = unlessZ (!c.mts.any fun x => !hasD (xs.map DlV.d) x.m.d) 17 := ⟨_, rfl⟩
    have hget : es[4]? = some v := by rw [Hes.out, hv]; rfl
    rw [← hv]
    clear hv
    by_cases he : v = 0
    · have he' : (v != 0) = false := by simp [he]
      have Hz2 : Hid (∀ j : Nat, j < 4 + 1 → es[j]? = some 0) := fun j hj => by
       by_cases hj2 : j < 4
       · exact Hz.out j hj2
       · obtain rfl : j = 4 := by omega
         rw [hget, he]
      subst he
      clear hget Hz
      go_wp2_with fail
      exact ⟨⟨4 + 1, by simp, by simp, by omega, Hz2, hS⟩, by simp [intOf]⟩
    · have he' : (v != 0) = true := by simpa using he
      have Hf : Hid (orL es = v) := orL_first Hz.out hget he
      clear hget he Hz
      go_wp2_with fail
      try rw [Exit.noGoto_ret]
      go_ret
      exact ⟨ret_i' (Hzz.out.trans Hf.out).symm, Hlo.out _ hS⟩
  · skip
    have H1 := Lib.hid (ckC8_any C O c wr (Hs.out _ hS).1.1 (Hs.out _ hS).2.2.2 (Hs.out _ hS).1.2.2.2)
    have hix : ∀ w : World, (Instr.index 104 (.agg #[.func (.func 67) #[] #[.pointer (some ⟨C, 0, none⟩)], .func (.func 70) #[] #[.pointer (some ⟨C, 0, none⟩)], .func (.func 72) #[] #[.pointer (some ⟨C, 0, none⟩)], .func (.func 73) #[] #[.pointer (some ⟨C, 0, none⟩)], .func (.func 75) #[] #[.pointer (some ⟨C, 0, none⟩), .pointer (some ⟨F, 0, none⟩)], .func (.func 77) #[] #[.pointer (some ⟨C, 0, none⟩), .pointer (some ⟨O, 0, none⟩)], .func (.func 78) #[] #[.pointer (some ⟨C, 0, none⟩)]]) (.int .i64 5)).run Tryz.prog w = .ok (.func (.func 77) #[] #[.pointer (some ⟨C, 0, none⟩), .pointer (some ⟨O, 0, none⟩)]) w := fun _ => by kernel_rfl
    go_wp2_with fail
    refine H1.out.mono ?_
    rintro e w' ⟨rfl, b1⟩
    replace hS := stS.go hS b1
    clear H1 b1
    obtain ⟨v, hv⟩ : ∃ v, v = unlessZ (!c.mts.any fun x => oddZ c.tests.length x.m) 21 := ⟨_, rfl⟩
    have hget : es[5]? = some v := by rw [Hes.out, hv]; rfl
    rw [← hv]
    clear hv
    by_cases he : v = 0
    · have he' : (v != 0) = false := by simp [he]
      have Hz2 : Hid (∀ j : Nat, j < 5 + 1 → es[j]? = some 0) := fun j hj => by
       by_cases hj2 : j < 5
       · exact Hz.out j hj2
       · obtain rfl : j = 5 := by omega
         rw [hget, he]
      subst he
      clear hget Hz
      go_wp2_with fail
      exact ⟨⟨5 + 1, by simp, by simp, by omega, Hz2, hS⟩, by simp [intOf]⟩
    · have he' : (v != 0) = true := by simpa using he
      have Hf : Hid (orL es = v) := orL_first Hz.out hget he
      clear hget he Hz
      go_wp2_with fail
      try rw [Exit.noGoto_ret]
      go_ret
      exact ⟨ret_i' (Hzz.out.trans Hf.out).symm, Hlo.out _ hS⟩
  · skip
    have H1 := Lib.hid (ckC9_any C c wr (Hs.out _ hS).1.1 (Hs.out _ hS).2.2.2)
    have hix : ∀ w : World, (Instr.index 104 (.agg #[.func (.func 67) #[] #[.pointer (some ⟨C, 0, none⟩)], .func (.func 70) #[] #[.pointer (some ⟨C, 0, none⟩)], .func (.func 72) #[] #[.pointer (some ⟨C, 0, none⟩)], .func (.func 73) #[] #[.pointer (some ⟨C, 0, none⟩)], .func (.func 75) #[] #[.pointer (some ⟨C, 0, none⟩), .pointer (some ⟨F, 0, none⟩)], .func (.func 77) #[] #[.pointer (some ⟨C, 0, none⟩), .pointer (some ⟨O, 0, none⟩)], .func (.func 78) #[] #[.pointer (some ⟨C, 0, none⟩)]]) (.int .i64 6)).run Tryz.prog w = .ok (.func (.func 78) #[] #[.pointer (some ⟨C, 0, none⟩)]) w := fun _ => by kernel_rfl
    go_wp2_with fail
    refine H1.out.mono ?_
    rintro e w' ⟨rfl, b1⟩
    replace hS := stS.go hS b1
    clear H1 b1
    obtain ⟨v, hv⟩ : ∃ v, v = unlessZ (scB c.sc (scoreZ c.muts)) 22 := ⟨_, rfl⟩
    have hget : es[6]? = some v := by rw [Hes.out, hv]; rfl
    rw [← hv]
    clear hv
    by_cases he : v = 0
    · have he' : (v != 0) = false := by simp [he]
      have Hz2 : Hid (∀ j : Nat, j < 6 + 1 → es[j]? = some 0) := fun j hj => by
       by_cases hj2 : j < 6
       · exact Hz.out j hj2
       · obtain rfl : j = 6 := by omega
         rw [hget, he]
      subst he
      clear hget Hz
      go_wp2_with fail
      exact ⟨⟨6 + 1, by simp, by simp, by omega, Hz2, hS⟩, by simp [intOf]⟩
    · have he' : (v != 0) = true := by simpa using he
      have Hf : Hid (orL es = v) := orL_first Hz.out hget he
      clear hget he Hz
      go_wp2_with fail
      try rw [Exit.noGoto_ret]
      go_ret
      exact ⟨ret_i' (Hzz.out.trans Hf.out).symm, Hlo.out _ hS⟩
  · have Hf : Hid (orL es = 0) := orL_zero fun j x hx => by
     have hl : j < 7 := by have := (List.getElem?_eq_some_iff.1 hx).1; rw [Hes.out] at this; exact this
     have := Hz.out j hl
     rw [hx] at this; injection this
    clear Hz
    go_wp2_with fail
    try rw [Exit.noGoto_ret]
    go_ret
    exact ⟨ret_i' (Hzz.out.trans Hf.out).symm, Hlo.out _ hS⟩
end Go.Proofs.YtcgglolckkeeiaaGreat
