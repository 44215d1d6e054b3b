/- Lemmas for CmAll. -/
import Derived.Test.YtcgglolckkeeiaaGreatZm25
import Derived.Test.YtcgglolckkeeiaaGreatZm15
import Derived.Test.YtcgglolckkeeiaaGreatZm23
import Derived.OrdersHeld
namespace Go.Proofs.YtcgglolckkeeiaaGreat
set_option linter.unusedVariables false
open Go.RowKit Go.Deep
noncomputable def ckL (c : CpV) : List Int := [unlessZ (checkP c.p == 0) 23, suiteZ c.p.params c.testsL c.fuel, unlessZ (decide ((c.mts.length : Int) ≤ 2000)) 24, unlessZ (riseB c.muts) 20, unlessZ (!c.mts.any fun x => !inP c.p x.m.d) 17, unlessZ (!c.mts.any fun x => oddZ c.tests.length x.m) 21, unlessZ (scB c.sc (scoreZ c.muts)) 22]
theorem ckL_get (c : CpV) : cpCheckZ c = orL (ckL c) := rfl
set_option maxRecDepth 100000 in
set_option maxHeartbeats 8000000 in
theorem refCpCheck_any (c : CpV) (w : World) (hc : CpOk w c) :
 Calls Tryz.prog 31 #[.agg c.cells] w fun e w' => e = .returned (.int .i64 (cpCheckZ c)) ∧ Below w.heap.size w w' := by
 have Hc := Lib.hid hc
 have hml : (c.mts.length : Int) ≤ 100000 := by have := hc.mlen; omega
 obtain ⟨z, hz⟩ : ∃ z, z = cpCheckZ c := ⟨_, rfl⟩
 rw [← hz]
 rw [ckL_get] at hz
 have Hz := Lib.hid hz
 clear hc hz
 go_enter Tryz.func31, Tryz.ntmps31
 go_wp2_with (refine at_box _ _ rfl ?_)
 refine Stop.to ?_
 refine wpList_box_gen rfl 31 _ rfl c.cells rfl ?_
 intro G Gw Gh Gr Gb
 have b1 := (Below.refl w.heap.size w).trans (Gb.mono Gh)
 have Hc1 := Lib.hid (Hc.out.go b1)
 have Hs := Lib.hid (refKCheck_any c.p Hc1.out.bl Gw Hc1.out.pok)
 clear Gb Gh Hc
 go_wp2_with (refine wpList_load_at rfl 25 _ rfl ⟨G, 0, none⟩ rfl c.p.cells.toList _ (cp_head Gr) Tryz.underlying25 rfl (by kernel_rfl) ?_)
 refine Hs.out.mono ?_
 rintro e w1 ⟨rfl, b2⟩
 replace Gr := Gr.below b2 Gr.lt
 replace b1 := b1.trans (b2.mono b1.size)
 replace Hc1 := Lib.hid (Hc1.out.go b2)
 clear b2 Hs
 obtain ⟨k, hk⟩ : ∃ k, k = checkP c.p := ⟨_, rfl⟩
 rw [← hk]
 by_cases h0 : k = 0
 rotate_left
 · have Hf : Hid (z = 23) := by
    show _ = _
    rw [Hz.out]
    refine orL_first (k := 0) (fun j hj => by omega) ?_ (by omega)
    show some (unlessZ (checkP c.p == 0) 23) = _
    rw [show (checkP c.p == 0) = false by rw [← hk]; simpa using h0]; rfl
   have e0 : (k != 0) = true := by simpa using h0
   clear hk h0
   go_wp2_with fail
   go_ret
   exact ⟨ret_i' Hf.out.symm, b1⟩
 subst h0
 have Z0 : Hid ((ckL c)[0]? = some 0) := by
  show some (unlessZ (checkP c.p == 0) 23) = _
  rw [← hk]; rfl
 have c0 := Gr.cellv (i := 0) (v := .int .i64 c.p.params) rfl
 have c3 := cp_test Gr
 have c4 := Gr.cellv (i := 4) (v := .int .i64 c.fuel) rfl
 have Hs := Lib.hid (refSuite_any c.p.params c.fuel c.tA c.tcap c.tests w1 Hc1.out.trd (by have := Hc1.out.tlen; omega))
 clear hk
 go_wp2_with fail
 refine Hs.out.mono ?_
 rintro e w2 ⟨rfl, rfl⟩
 clear Hs c0 c3 c4
 obtain ⟨k, hk⟩ : ∃ k, k = suiteZ c.p.params c.testsL c.fuel := ⟨_, rfl⟩
 rw [show suiteZ c.p.params (c.tests.map IntsV.l) c.fuel = k from hk.symm]
 by_cases h0 : k = 0
 rotate_left
 · have Hf : Hid (z = k) := by
    show _ = _
    rw [Hz.out]
    refine orL_first (k := 1) (fun j hj => ?_) (by rw [hk]; rfl) h0
    obtain rfl : j = 0 := by omega
    exact Z0.out
   have e0 : (k != 0) = true := by simpa using h0
   clear hk h0
   go_wp2_with fail
   go_ret
   exact ⟨ret_i' Hf.out.symm, b1⟩
 subst h0
 have Z1 : Hid ((ckL c)[1]? = some 0) := by
  show some (suiteZ c.p.params c.testsL c.fuel) = _
  rw [← hk]
 have c5 := cp_mut Gr
 clear hk
 by_cases h2 : 2000 < (c.mts.length : Int)
 · have Hf : Hid (z = 24) := by
    show _ = _
    rw [Hz.out]
    refine orL_first (k := 2) (fun j hj => ?_) ?_ (by omega)
    · match j, hj with
      | 0, _ => exact Z0.out
      | 1, _ => exact Z1.out
    · show some (unlessZ (decide ((c.mts.length : Int) ≤ 2000)) 24) = _
      rw [decide_eq_false (by omega)]; rfl
   go_wp2_with fail
   go_ret
   exact ⟨ret_i' Hf.out.symm, b1⟩
 have Z2 : Hid ((ckL c)[2]? = some 0) := by
  show some (unlessZ (decide ((c.mts.length : Int) ≤ 2000)) 24) = _
  rw [decide_eq_true (by omega)]; rfl
 obtain ⟨S, hSd⟩ : ∃ S, S = (fun W => Row W G 31 c.cells ∧ CpOk W c ∧ Below w.heap.size w W) := ⟨_, rfl⟩
 have stS : St S := by rw [hSd]; infer_instance
 have T0 : Hid (∀ W, S W → Row W G 31 c.cells) := by show ∀ W, _; rw [hSd]; exact fun W h => h.1
 have T1 : Hid (∀ W, S W → CpOk W c) := by show ∀ W, _; rw [hSd]; exact fun W h => h.2.1
 have T2 : Hid (∀ W, S W → Below w.heap.size w W) := by show ∀ W, _; rw [hSd]; exact fun W h => h.2.2
 have hS : S w1 := by rw [hSd]; exact ⟨Gr, Hc1.out, b1⟩
 clear hSd Gr Hc1 b1
 go_wp2_with fail
 clear c5
 go_loopw [4] (fun i wr => ∃ k : Nat, i = .int .i64 (k : Int) ∧ 1 ≤ k ∧ (k ≤ c.mts.length ∨ k = 1) ∧ Hid (riseM (c.muts.take k)) ∧ S wr) (fun i _ => c.mts.length - (intOf i).toNat)
 case atStart => exact ⟨1, by simp, Nat.le_refl _, .inr rfl, Lib.hid (riseM_one _), hS⟩
 case round =>
  clear hS
  obtain ⟨k, rfl, hk0, hk1, Hk, hS⟩ := hrel
  by_cases hkn : k < c.mts.length
  · obtain ⟨j, rfl⟩ : ∃ j, k = j + 1 := ⟨k - 1, by omega⟩
    have hja : ((j + 1 : Nat) : Int) < (c.mts.length : Int) := by omega
    obtain ⟨x, hx⟩ : ∃ x, c.mts[j]? = some x := ⟨_, List.getElem?_eq_getElem (by omega)⟩
    have Hx := Lib.hid hx
    obtain ⟨ad, had, _⟩ := mt_at ((T1.out _ hS).mrd) hx
    have Hc : Hid (∀ W, S W → ∀ i u, x.cells[i]? = some u → W.cell? ((ad.add (j * 8)).add i) = some u) := fun W h => by
     obtain ⟨ad', e1, e2⟩ := mt_at (T1.out W h).mrd Hx.out
     rw [had] at e1; injection e1 with e1; subst e1; exact e2
    have c5 : ∀ W, S W → W.cell? ⟨G, 5, none⟩ = some (.slice (some ad) c.mts.length c.mcap) := fun W h => by rw [← had]; exact cp_mut (T0.out W h)
    have C5 := Lib.hid c5
    have Had := Lib.hid had
    clear hx c5 had
    obtain ⟨y, hy⟩ : ∃ y, c.mts[j + 1]? = some y := ⟨_, List.getElem?_eq_getElem hkn⟩
    have Hy := Lib.hid hy
    have Hd : Hid (∀ W, S W → ∀ i u, y.cells[i]? = some u → W.cell? ((ad.add ((j + 1) * 8)).add i) = some u) := fun W h => by
     obtain ⟨ad', e1, e2⟩ := mt_at (T1.out W h).mrd Hy.out
     rw [Had.out] at e1; injection e1 with e1; subst e1; exact e2
    have hjn : (j : Int) < (c.mts.length : Int) := by omega
    have hj0 : (0 : Int) ≤ (j : Int) := by omega
    have cc := C5.out _ hS
    clear hy hk0 hk1
    go_wp2_with fail
    clear cc
    refine region_hold S (by kernel_rfl) (by kernel_rfl) (St.drew hS) ?_
    clear hS
    (refine hold_value rfl ?_ (fun W hW => ?_) ?_; rotate_left; (focus (go_simp; exact rfl)); simp only [Act.put, List.setIfInBounds_toArray, List.set_cons_zero, List.set_cons_succ])
    (refine hold_value rfl ?_ (fun W hW => ?_) ?_; rotate_left; (focus (have c := C5.out W hW; go_simp; exact rfl)); simp only [Act.put, List.setIfInBounds_toArray, List.set_cons_zero, List.set_cons_succ])
    (refine hold_value rfl ?_ (fun W hW => ?_) ?_; rotate_left; (focus (go_simp; exact rfl)); simp only [Act.put, List.setIfInBounds_toArray, List.set_cons_zero, List.set_cons_succ])
    (refine hold_value rfl (.int .i64 (j : Int)) (fun W hW => (by first | (go_simp; done) | (go_simp; exact IntWalk.i64_in _ (by omega)))) ?_; simp only [Act.put, List.setIfInBounds_toArray, List.set_cons_zero, List.set_cons_succ])
    iterate 2 (refine hold_value rfl ?_ (fun W hW => ?_) ?_; rotate_left; (focus (go_simp; exact rfl)); simp only [Act.put, List.setIfInBounds_toArray, List.set_cons_zero, List.set_cons_succ])
    (refine hold_load_at rfl 42 _ rfl (_) rfl x.dl.cells.toList _ (fun W hW => mt_dlat (Hc.out W hW)) Tryz.underlying42 rfl (by kernel_rfl) ?_; simp only [Act.put, List.setIfInBounds_toArray, List.set_cons_zero, List.set_cons_succ])
    (refine hold_value rfl ?_ (fun W hW => ?_) ?_; rotate_left; (focus (go_simp; exact rfl)); simp only [Act.put, List.setIfInBounds_toArray, List.set_cons_zero, List.set_cons_succ])
    (refine hold_value rfl ?_ (fun W hW => ?_) ?_; rotate_left; (focus (have c := C5.out W hW; go_simp; exact rfl)); simp only [Act.put, List.setIfInBounds_toArray, List.set_cons_zero, List.set_cons_succ])
    iterate 3 (refine hold_value rfl ?_ (fun W hW => ?_) ?_; rotate_left; (focus (go_simp; exact rfl)); simp only [Act.put, List.setIfInBounds_toArray, List.set_cons_zero, List.set_cons_succ])
    (refine hold_load_at rfl 42 _ rfl (_) rfl y.dl.cells.toList _ (fun W hW => mt_dlat (Hd.out W hW)) Tryz.underlying42 rfl (by kernel_rfl) ?_; simp only [Act.put, List.setIfInBounds_toArray, List.set_cons_zero, List.set_cons_succ])
    (refine hold_call_new rfl 57 _ (fun W => by (go_simp; try rfl)) (.int .i64 (cmpD x.m.d y.m.d)) (fun W hW => refDlCmp_any x.dl y.dl W ((T1.out W hW).mok x (List.mem_of_getElem? Hx.out)).dl ((T1.out W hW).mok y (List.mem_of_getElem? Hy.out)).dl) ?_; simp only [Act.put, List.setIfInBounds_toArray, List.set_cons_zero, List.set_cons_succ])
    (refine hold_value rfl ?_ (fun W hW => ?_) ?_; rotate_left; (focus (go_simp; exact rfl)); simp only [Act.put, List.setIfInBounds_toArray, List.set_cons_zero, List.set_cons_succ])
    refine wpHold_nil fun W hS => ?_
    obtain ⟨d, hd⟩ : ∃ d, d = cmpD x.m.d y.m.d := ⟨_, rfl⟩
    rw [← hd]
    have hx' : c.muts[j]? = some x.m := by unfold CpV.muts; rw [List.getElem?_map, Hx.out]; rfl
    have hy' : c.muts[j + 1]? = some y.m := by unfold CpV.muts; rw [List.getElem?_map, Hy.out]; rfl
    by_cases h0 : 0 ≤ d
    · have Hf : Hid (z = 20) := by
       show _ = _
       rw [Hz.out]
       have h1 : riseB c.muts = false := by
        have h1 : ¬ riseB c.muts = true := fun h => by
         have := riseM_get (riseB_iff.1 h) hx' hy'
         omega
        simpa using h1
       refine orL_first (k := 3) (fun j hj => ?_) ?_ (by omega)
       · match j, hj with
         | 0, _ => exact Z0.out
         | 1, _ => exact Z1.out
         | 2, _ => exact Z2.out
       · show some (unlessZ (riseB c.muts) 20) = _
         rw [h1]; rfl
      clear Hk hd hx' hy' Hc Hd C5
      go_wp2_with fail
      go_ret
      exact ⟨ret_i' Hf.out.symm, T2.out _ hS⟩
    · have Hf : Hid (riseM (c.muts.take (j + 1 + 1))) := riseM_take_succ hx' hy' Hk.out (by omega)
      clear Hk hd hx' hy' Hc Hd C5
      go_wp2_with fail
      refine ⟨⟨j + 1 + 1, by simp, by omega, by omega, Hf, hS⟩, ?_⟩
      simp only [intOf]; omega
  have hge : ¬ ((k : Int) < (c.mts.length : Int)) := by omega
  have Z3 : Hid ((ckL c)[3]? = some 0) := by
   show some (unlessZ (riseB c.muts) 20) = _
   have h1 := Hk.out
   rw [List.take_of_length_le (by unfold CpV.muts; rw [List.length_map]; omega)] at h1
   rw [riseB_iff.2 h1]; rfl
  have c5 := cp_mut (T0.out _ hS)
  clear hk0 hk1 hkn Hk
  go_wp2_with fail
  clear c5
  go_loopw [5] (fun i wr => ∃ k : Nat, i = .int .i64 (k : Int) ∧ k ≤ c.mts.length ∧ Hid (∀ x ∈ c.mts.take k, inP c.p x.m.d = true) ∧ S wr) (fun i _ => c.mts.length - (intOf i).toNat)
  case atStart => exact ⟨0, by simp, Nat.zero_le _, Lib.hid (fun x hx => by simp at hx), hS⟩
  case round =>
   clear hS
   obtain ⟨k, rfl, hk1, Hk, hS⟩ := hrel
   by_cases hkn : k < c.mts.length
   · have hka : (k : Int) < (c.mts.length : Int) := by omega
     obtain ⟨x, hx⟩ : ∃ x, c.mts[k]? = some x := ⟨_, List.getElem?_eq_getElem (by omega)⟩
     have Hx := Lib.hid hx
     obtain ⟨ad, had, _⟩ := mt_at ((T1.out _ hS).mrd) hx
     have Hc : Hid (∀ W, S W → ∀ i u, x.cells[i]? = some u → W.cell? ((ad.add (k * 8)).add i) = some u) := fun W h => by
      obtain ⟨ad', e1, e2⟩ := mt_at (T1.out W h).mrd Hx.out
      rw [had] at e1; injection e1 with e1; subst e1; exact e2
     have c5 : ∀ W, S W → W.cell? ⟨G, 5, none⟩ = some (.slice (some ad) c.mts.length c.mcap) := fun W h => by rw [← had]; exact cp_mut (T0.out W h)
     have C5 := Lib.hid c5
     have Had := Lib.hid had
     clear hx c5 had
     have cc := C5.out _ hS
     clear hk1
     go_wp2_with fail
     clear cc
     refine region_hold S (by kernel_rfl) (by kernel_rfl) (St.drew hS) ?_
     clear hS
     (refine hold_value rfl ?_ (fun W hW => ?_) ?_; rotate_left; (focus (go_simp; exact rfl)); simp only [Act.put, List.setIfInBounds_toArray, List.set_cons_zero, List.set_cons_succ])
     (refine hold_load_at rfl 25 _ rfl (_) rfl c.p.cells.toList _ (fun W hW => cp_head (T0.out W hW)) Tryz.underlying25 rfl (by kernel_rfl) ?_; simp only [Act.put, List.setIfInBounds_toArray, List.set_cons_zero, List.set_cons_succ])
     (refine hold_value rfl ?_ (fun W hW => ?_) ?_; rotate_left; (focus (go_simp; exact rfl)); simp only [Act.put, List.setIfInBounds_toArray, List.set_cons_zero, List.set_cons_succ])
     (refine hold_value rfl ?_ (fun W hW => ?_) ?_; rotate_left; (focus (have c := C5.out W hW; go_simp; exact rfl)); simp only [Act.put, List.setIfInBounds_toArray, List.set_cons_zero, List.set_cons_succ])
     iterate 3 (refine hold_value rfl ?_ (fun W hW => ?_) ?_; rotate_left; (focus (go_simp; exact rfl)); simp only [Act.put, List.setIfInBounds_toArray, List.set_cons_zero, List.set_cons_succ])
     (refine hold_load_at rfl 42 _ rfl (_) rfl x.dl.cells.toList _ (fun W hW => mt_dlat (Hc.out W hW)) Tryz.underlying42 rfl (by kernel_rfl) ?_; simp only [Act.put, List.setIfInBounds_toArray, List.set_cons_zero, List.set_cons_succ])
     (refine hold_call_new rfl 85 _ (fun W => by (go_simp; try rfl)) (.bool (inP c.p x.m.d)) (fun W hW => ref14Is_any c.p x.dl (T1.out W hW).bl W (T1.out W hW).pok ((T1.out W hW).mok x (List.mem_of_getElem? Hx.out)).dl) ?_; simp only [Act.put, List.setIfInBounds_toArray, List.set_cons_zero, List.set_cons_succ])
     (refine hold_value rfl ?_ (fun W hW => ?_) ?_; rotate_left; (focus (go_simp; exact rfl)); simp only [Act.put, List.setIfInBounds_toArray, List.set_cons_zero, List.set_cons_succ])
     refine wpHold_nil fun W hS => ?_
     obtain ⟨b, hb⟩ : ∃ b, b = inP c.p x.m.d := ⟨_, rfl⟩
     rw [← hb]
     cases b
     · have Hf : Hid (z = 17) := by
        show _ = _
        rw [Hz.out]
        have h1 : (c.mts.any fun x => !inP c.p x.m.d) = true := List.any_eq_true.2 ⟨x, List.mem_of_getElem? Hx.out, by rw [← hb]; rfl⟩
        refine orL_first (k := 4) (fun j hj => ?_) ?_ (by omega)
        · match j, hj with
          | 0, _ => exact Z0.out
          | 1, _ => exact Z1.out
          | 2, _ => exact Z2.out
          | 3, _ => exact Z3.out
        · show some (unlessZ (!c.mts.any fun x => !inP c.p x.m.d) 17) = _
          rw [h1]; rfl
       clear Hk hb Hc C5
       go_wp2_with fail
       go_ret
       exact ⟨ret_i' Hf.out.symm, T2.out _ hS⟩
     · have Hf : Hid (∀ y ∈ c.mts.take (k + 1), inP c.p y.m.d = true) := fun y hy => by
        rw [List.take_add_one, List.mem_append] at hy
        rcases hy with hy | hy
        · exact Hk.out y hy
        · rw [Hx.out] at hy; simp at hy; rw [hy]; exact hb.symm
       clear Hk hb Hc C5
       go_wp2_with fail
       refine ⟨⟨k + 1, by simp, by omega, Hf, hS⟩, ?_⟩
       simp only [intOf]; omega
   obtain rfl : k = c.mts.length := by omega
   have hge2 : ¬ ((c.mts.length : Int) < (c.mts.length : Int)) := by omega
   have Z4 : Hid ((ckL c)[4]? = some 0) := by
    show some (unlessZ (!c.mts.any fun x => !inP c.p x.m.d) 17) = _
    have h1 : (c.mts.any fun x => !inP c.p x.m.d) = false := List.any_eq_false.2 fun x hx => by
     have := Hk.out x (by rw [List.take_length]; exact hx)
     simp [this]
    rw [h1]; rfl
   have c5 := cp_mut (T0.out _ hS)
   clear hk1 hkn Hk
   go_wp2_with fail
   clear c5
   go_loopw [6] (fun i wr => ∃ k : Nat, i = .int .i64 (k : Int) ∧ k ≤ c.mts.length ∧ Hid (∀ x ∈ c.mts.take k, oddZ c.tests.length x.m = false) ∧ S wr) (fun i _ => c.mts.length - (intOf i).toNat)
   case atStart => exact ⟨0, by simp, Nat.zero_le _, Lib.hid (fun x hx => by simp at hx), hS⟩
   case round =>
    clear hS
    obtain ⟨k, rfl, hk1, Hk, hS⟩ := hrel
    by_cases hkn : k < c.mts.length
    · have hka : (k : Int) < (c.mts.length : Int) := by omega
      obtain ⟨x, hx⟩ : ∃ x, c.mts[k]? = some x := ⟨_, List.getElem?_eq_getElem (by omega)⟩
      have Hx := Lib.hid hx
      obtain ⟨ad, had, _⟩ := mt_at ((T1.out _ hS).mrd) hx
      have Hc : Hid (∀ W, S W → ∀ i u, x.cells[i]? = some u → W.cell? ((ad.add (k * 8)).add i) = some u) := fun W h => by
       obtain ⟨ad', e1, e2⟩ := mt_at (T1.out W h).mrd Hx.out
       rw [had] at e1; injection e1 with e1; subst e1; exact e2
      have c5 : ∀ W, S W → W.cell? ⟨G, 5, none⟩ = some (.slice (some ad) c.mts.length c.mcap) := fun W h => by rw [← had]; exact cp_mut (T0.out W h)
      have C5 := Lib.hid c5
      have Had := Lib.hid had
      clear hx c5 had
      have cc := C5.out _ hS
      have Hodd : Hid (∀ b, b = oddZ c.tests.length x.m → if b = true then z = 21 else ∀ y ∈ c.mts.take (k + 1), oddZ c.tests.length y.m = false) := fun b hb => by
       cases b
       · rw [if_neg (by simp)]
         intro y hy
         rw [List.take_add_one, List.mem_append] at hy
         rcases hy with hy | hy
         · exact Hk.out y hy
         · rw [Hx.out] at hy; simp at hy; rw [hy]; exact hb.symm
       · rw [if_pos rfl, Hz.out]
         have h1 : (c.mts.any fun x => oddZ c.tests.length x.m) = true := List.any_eq_true.2 ⟨x, List.mem_of_getElem? Hx.out, hb.symm⟩
         refine orL_first (k := 5) (fun j hj => ?_) ?_ (by omega)
         · match j, hj with
           | 0, _ => exact Z0.out
           | 1, _ => exact Z1.out
           | 2, _ => exact Z2.out
           | 3, _ => exact Z3.out
           | 4, _ => exact Z4.out
         · show some (unlessZ (!c.mts.any fun x => oddZ c.tests.length x.m) 21) = _
           rw [h1]; rfl
      clear hk1 Hk
      obtain ⟨b, hb⟩ : ∃ b, b = rightZ x.m := ⟨_, rfl⟩
      have Hb := Lib.hid hb
      clear hb
      go_wp2_with fail
      clear cc
      cases b
      · have Hf : Hid (z = 21) := by
         have := Hodd.out true (by unfold oddZ; rw [← Hb.out]; rfl)
         exact this
        refine region_hold S (by kernel_rfl) (by kernel_rfl) (St.drew hS) ?_
        clear hS
        (refine hold_value rfl ?_ (fun W hW => ?_) ?_; rotate_left; (focus (go_simp; exact rfl)); simp only [Act.put, List.setIfInBounds_toArray, List.set_cons_zero, List.set_cons_succ])
        (refine hold_value rfl ?_ (fun W hW => ?_) ?_; rotate_left; (focus (have c := C5.out W hW; go_simp; exact rfl)); simp only [Act.put, List.setIfInBounds_toArray, List.set_cons_zero, List.set_cons_succ])
        iterate 2 (refine hold_value rfl ?_ (fun W hW => ?_) ?_; rotate_left; (focus (go_simp; exact rfl)); simp only [Act.put, List.setIfInBounds_toArray, List.set_cons_zero, List.set_cons_succ])
        (refine hold_load_at rfl 47 _ rfl (_) rfl x.cells _ (fun W hW => Hc.out W hW) Tryz.underlying47 rfl (by kernel_rfl) ?_; simp only [Act.put, List.setIfInBounds_toArray, List.set_cons_zero, List.set_cons_succ])
        (refine hold_call_new rfl 86 _ (fun W => by (go_simp; try rfl)) (.bool false) (fun W hW => (by rw [Hb.out]; exact refRight_any x W ((T1.out W hW).mok x (List.mem_of_getElem? Hx.out)))) ?_; simp only [Act.put, List.setIfInBounds_toArray, List.set_cons_zero, List.set_cons_succ])
        iterate 2 (refine hold_value rfl ?_ (fun W hW => ?_) ?_; rotate_left; (focus (go_simp; exact rfl)); simp only [Act.put, List.setIfInBounds_toArray, List.set_cons_zero, List.set_cons_succ])
        iterate 10 (refine hold_skip rfl ?_; simp only [Act.put, List.setIfInBounds_toArray, List.set_cons_zero, List.set_cons_succ])
        (refine hold_value rfl ?_ (fun W hW => ?_) ?_; rotate_left; (focus (go_simp; exact rfl)); simp only [Act.put, List.setIfInBounds_toArray, List.set_cons_zero, List.set_cons_succ])
        refine wpHold_nil fun W hS => ?_
        clear Hodd Hc C5 Hb
        go_wp2_with fail
        go_ret
        exact ⟨ret_i' Hf.out.symm, T2.out _ hS⟩
      · refine region_hold S (by kernel_rfl) (by kernel_rfl) (St.drew hS) ?_
        clear hS
        (refine hold_value rfl ?_ (fun W hW => ?_) ?_; rotate_left; (focus (go_simp; exact rfl)); simp only [Act.put, List.setIfInBounds_toArray, List.set_cons_zero, List.set_cons_succ])
        (refine hold_value rfl ?_ (fun W hW => ?_) ?_; rotate_left; (focus (have c := C5.out W hW; go_simp; exact rfl)); simp only [Act.put, List.setIfInBounds_toArray, List.set_cons_zero, List.set_cons_succ])
        iterate 2 (refine hold_value rfl ?_ (fun W hW => ?_) ?_; rotate_left; (focus (go_simp; exact rfl)); simp only [Act.put, List.setIfInBounds_toArray, List.set_cons_zero, List.set_cons_succ])
        (refine hold_load_at rfl 47 _ rfl (_) rfl x.cells _ (fun W hW => Hc.out W hW) Tryz.underlying47 rfl (by kernel_rfl) ?_; simp only [Act.put, List.setIfInBounds_toArray, List.set_cons_zero, List.set_cons_succ])
        (refine hold_call_new rfl 86 _ (fun W => by (go_simp; try rfl)) (.bool true) (fun W hW => (by rw [Hb.out]; exact refRight_any x W ((T1.out W hW).mok x (List.mem_of_getElem? Hx.out)))) ?_; simp only [Act.put, List.setIfInBounds_toArray, List.set_cons_zero, List.set_cons_succ])
        iterate 2 (refine hold_value rfl ?_ (fun W hW => ?_) ?_; rotate_left; (focus (go_simp; exact rfl)); simp only [Act.put, List.setIfInBounds_toArray, List.set_cons_zero, List.set_cons_succ])
        (refine hold_value rfl ?_ (fun W hW => ?_) ?_; rotate_left; (focus (go_simp; exact rfl)); simp only [Act.put, List.setIfInBounds_toArray, List.set_cons_zero, List.set_cons_succ])
        (refine hold_value rfl ?_ (fun W hW => ?_) ?_; rotate_left; (focus (have c := C5.out W hW; go_simp; exact rfl)); simp only [Act.put, List.setIfInBounds_toArray, List.set_cons_zero, List.set_cons_succ])
        iterate 3 (refine hold_value rfl ?_ (fun W hW => ?_) ?_; rotate_left; (focus (go_simp; exact rfl)); simp only [Act.put, List.setIfInBounds_toArray, List.set_cons_zero, List.set_cons_succ])
        (refine hold_value rfl ?_ (fun W hW => ?_) ?_; rotate_left; (focus (have c : W.cell? ⟨(ad.add (k * 8)).block, (ad.add (k * 8)).off + 4, none⟩ = some (.int .i64 x.m.test) := Hc.out W hW 4 _ rfl; go_simp; exact rfl)); simp only [Act.put, List.setIfInBounds_toArray, List.set_cons_zero, List.set_cons_succ])
        (refine hold_value rfl ?_ (fun W hW => ?_) ?_; rotate_left; (focus (go_simp; exact rfl)); simp only [Act.put, List.setIfInBounds_toArray, List.set_cons_zero, List.set_cons_succ])
        (refine hold_value rfl ?_ (fun W hW => ?_) ?_; rotate_left; (focus (have c := cp_test (T0.out W hW); go_simp; exact rfl)); simp only [Act.put, List.setIfInBounds_toArray, List.set_cons_zero, List.set_cons_succ])
        iterate 3 (refine hold_value rfl ?_ (fun W hW => ?_) ?_; rotate_left; (focus (go_simp; exact rfl)); simp only [Act.put, List.setIfInBounds_toArray, List.set_cons_zero, List.set_cons_succ])
        refine wpHold_nil fun W hS => ?_
        by_cases h0 : (c.tests.length : Int) ≤ x.m.test
        · have Hf : Hid (z = 21) := by
           have := Hodd.out true (by unfold oddZ; rw [← Hb.out, decide_eq_true h0]; rfl)
           exact this
          clear Hodd Hc C5 Hb
          go_wp2_with fail
          go_ret
          exact ⟨ret_i' Hf.out.symm, T2.out _ hS⟩
        · have Hf : Hid (∀ y ∈ c.mts.take (k + 1), oddZ c.tests.length y.m = false) := by
           have := Hodd.out false (by unfold oddZ; rw [← Hb.out, decide_eq_false h0]; rfl)
           exact this
          clear Hodd Hc C5 Hb
          go_wp2_with fail
          refine ⟨⟨k + 1, by simp, by omega, Hf, hS⟩, ?_⟩
          simp only [intOf]; omega
    obtain rfl : k = c.mts.length := by omega
    have hge3 : ¬ ((c.mts.length : Int) < (c.mts.length : Int)) := by omega
    have Z5 : Hid ((ckL c)[5]? = some 0) := by
     show some (unlessZ (!c.mts.any fun x => oddZ c.tests.length x.m) 21) = _
     have h1 : (c.mts.any fun x => oddZ c.tests.length x.m) = false := List.any_eq_false.2 fun x hx => by
      have := Hk.out x (by rw [List.take_length]; exact hx)
      simp [this]
     rw [h1]; rfl
    have c5 := cp_mut (T0.out _ hS)
    clear hk1 hkn Hk
    obtain ⟨b, hb⟩ : ∃ b, b = scB c.sc (scoreZ c.muts) := ⟨_, rfl⟩
    have Hz2 : Hid (z = unlessZ b 22) := by
     show _ = _
     rw [Hz.out, hb]
     have zz : ∀ j, j < 6 → (ckL c)[j]? = some 0 := fun j hj => by
      match j, hj with
      | 0, _ => exact Z0.out
      | 1, _ => exact Z1.out
      | 2, _ => exact Z2.out
      | 3, _ => exact Z3.out
      | 4, _ => exact Z4.out
      | 5, _ => exact Z5.out
     by_cases h : unlessZ (scB c.sc (scoreZ c.muts)) 22 = 0
     · rw [h]
       refine orL_zero fun j x hx => ?_
       by_cases hj : j < 6
       · rw [zz j hj] at hx; injection hx with hx; exact hx.symm
       · have hl : j < 7 := (List.getElem?_eq_some_iff.1 hx).1
         obtain rfl : j = 6 := by omega
         have : some (unlessZ (scB c.sc (scoreZ c.muts)) 22) = some x := hx
         injection this with this
         rw [← this]; exact h
     · exact orL_first (k := 6) zz rfl h
    have Hb := Lib.hid hb
    clear hb
    go_wp2_with fail
    clear c5
    refine region_hold S (by kernel_rfl) (by kernel_rfl) (St.drew hS) ?_
    clear hS
    (refine hold_value rfl ?_ (fun W hW => ?_) ?_; rotate_left; (focus (go_simp; exact rfl)); simp only [Act.put, List.setIfInBounds_toArray, List.set_cons_zero, List.set_cons_succ])
    (refine hold_load_at rfl 29 _ rfl (_) rfl [.int .i64 c.sc.alive, .int .i64 c.sc.killed, .int .i64 c.sc.timeout] _ (fun W hW => cp_score (T0.out W hW)) Tryz.underlying29 rfl (by kernel_rfl) ?_; simp only [Act.put, List.setIfInBounds_toArray, List.set_cons_zero, List.set_cons_succ])
    (refine hold_value rfl ?_ (fun W hW => ?_) ?_; rotate_left; (focus (go_simp; exact rfl)); simp only [Act.put, List.setIfInBounds_toArray, List.set_cons_zero, List.set_cons_succ])
    (refine hold_value rfl ?_ (fun W hW => ?_) ?_; rotate_left; (focus (have c5 := cp_mut (T0.out W hW); go_simp; exact rfl)); simp only [Act.put, List.setIfInBounds_toArray, List.set_cons_zero, List.set_cons_succ])
    (refine hold_call_new rfl 54 _ (fun W => by (go_simp; try rfl)) (.agg #[.int .i64 (scoreZ c.muts).alive, .int .i64 (scoreZ c.muts).killed, .int .i64 (scoreZ c.muts).timeout]) (fun W hW => refScore_any c.mA c.mcap c.mts W (T1.out W hW).mrd (by have := (T1.out W hW).mlen; omega)) ?_; simp only [Act.put, List.setIfInBounds_toArray, List.set_cons_zero, List.set_cons_succ])
    (refine hold_value rfl (.bool (!b)) (fun W hW => (by rw [Hb.out]; unfold scB; go_simp; repeat (first | rfl | split); all_goals simp [*])) ?_; simp only [Act.put, List.setIfInBounds_toArray, List.set_cons_zero, List.set_cons_succ])
    refine wpHold_nil fun W hS => ?_
    cases b
    · have Hf : Hid (z = 22) := Hz2.out
      clear Hz2 Hb
      go_wp2_with fail
      go_ret
      exact ⟨ret_i' Hf.out.symm, T2.out _ hS⟩
    · have Hf : Hid (z = 0) := Hz2.out
      clear Hz2 Hb
      go_wp2_with fail
      go_ret
      exact ⟨ret_i' Hf.out.symm, T2.out _ hS⟩
end Go.Proofs.YtcgglolckkeeiaaGreat
namespace Go.Proofs.YtcgglolckkeeiaaGreat
set_option linter.unusedVariables false
open Go.RowKit
section
variable {P : Program} {ops : Array Oper} {Q : Exit → Act → World → Prop} {md : Region.Mode} {S : World → Prop} {last : Nat}
def YieldsC (P : Program) (ops : Array Oper) (S : World → Prop) (o : Oper) (v : Value) (a : Act) : Prop :=
 (Region.wanted o (yielded ops a.tmps) = true ∧ ∀ w, S w → (execOp a.eval o).run P w = .ok (.value v) w ∨ ∃ f args, (execOp a.eval o).run P w = .ok (.enter f args) w ∧ Calls P f args w fun e w' => e = .returned v ∧ w' = w) ∨
 (Region.wanted o (yielded ops a.tmps) = false ∧ v = undef)
theorem yieldsC_of {o : Oper} {v : Value} {a : Act} (h : YieldsIf P ops S o v a) : YieldsC P ops S o v a := h.imp (fun ⟨hw, hv⟩ => ⟨hw, fun w hS => .inl (hv w hS)⟩) id
theorem YieldsC.wpOp {i : Nat} {o : Oper} {v : Value} {a : Act} (hi : ops[i]? = some o) (hy : YieldsC P ops S o v a) {K : Act → World → Prop} {w : World} (hS : S w) (h : K (a.put o.dst v) w) : wpOp P ops Q i K a w := by
 unfold Go.wpOp
 simp only [hi]
 rcases hy with ⟨hw, hv⟩ | ⟨hw, rfl⟩
 · rw [if_pos hw]
   refine .inl ?_
   unfold Oper.wp
   rcases hv w hS with hv | ⟨f, args, hv, hc⟩
   · rw [hv]; exact h
   · rw [hv]
     refine Calls.mono hc fun e w' he => ?_
     obtain ⟨rfl, rfl⟩ := he
     exact h
 · rw [if_neg (by rw [hw]; simp)]; exact h
theorem YieldsC.of_same {o : Oper} {v : Value} {a a' : Act} (hy : YieldsC P ops S o v a) (he : execOp a'.eval o = execOp a.eval o) (hw : Region.wanted o (yielded ops a'.tmps) = Region.wanted o (yielded ops a.tmps)) : YieldsC P ops S o v a' := by
 unfold YieldsC at *
 rw [he, hw]
 exact hy
theorem wpOp_putC {j : Nat} {oi oj : Oper} {v : Value} (hj : ops[j]? = some oj) (hap : oi.apart ops oj = true)
 (hsi : ∀ cs b, oi.op ≠ .select cs b) (hsj : ∀ cs b, oj.op ≠ .select cs b)
 (hQ : ∀ c a w, Q (.panic c) (a.put oi.dst v) w → Q (.panic c) a w) {K : Act → World → Prop} {a : Act} {w : World}
 (hy : YieldsC P ops S oi v a) (h : wpOp P ops Q j K (a.put oi.dst v) w) :
 wpOp P ops Q j (fun a' w' => YieldsC P ops S oi v a' ∧ K (a'.put oi.dst v) w') a w := by
 obtain ⟨h1, h2, h3⟩ := Oper.apart_spec hap
 have keep : ∀ (a : Act), YieldsC P ops S oi v a → ∀ u, YieldsC P ops S oi v (a.put oj.dst u) := fun a hy u =>
  hy.of_same (execOp_put oi hsi a oj.dst u h3) (wanted_put oi a oj.dst u h3)
 have keepD : ∀ d, YieldsC P ops S oi v { a with defers := d :: a.defers } := fun d => hy.of_same rfl rfl
 unfold wpOp at *
 simp only [hj] at *
 rw [wanted_put oj a oi.dst v h1] at h
 split
 · rename_i hw
   simp only [hw, if_true] at h
   rcases h with h | ⟨hasks, hlets⟩
   case inr => exact .inr ⟨by unfold Oper.asks at *; rw [execOp_put oj hsj a oi.dst v h1] at hasks; exact hasks, hlets⟩
   refine .inl ?_
   unfold Oper.wp at *
   rw [execOp_put oj hsj a oi.dst v h1] at h
   generalize (execOp a.eval oj).run P w = r at *
   cases r with
   | ok n w' =>
    cases n <;> simp only [Oper.upon] at h ⊢
    case value u => exact ⟨keep a hy u, by rw [← Act.put_comm a v u h2]; exact h⟩
    case skip => exact ⟨keep a hy _, by rw [← Act.put_comm a v undef h2]; exact h⟩
    case defer d =>
     refine ⟨keep _ (keepD d) _, ?_⟩
     rw [← Act.put_comm _ v undef h2, ← Act.put_defers]
     exact h
    case enter f args =>
     refine Calls.mono h fun e w'' he => ?_
     cases e with
     | returned u => exact ⟨keep a hy u, by rw [← Act.put_comm a v u h2]; exact he⟩
     | panicked c => exact hQ _ _ _ he
     | outgrown => exact he
    case row row args => exact Rows.mono h fun u w'' he => ⟨keep a hy u, by rw [← Act.put_comm a v u h2]; exact he⟩
   | halt x w' =>
    cases x <;> simp only [Oper.upon] at h ⊢
    case panic u => exact hQ _ _ _ h
 · rename_i hw
   simp only [hw] at h
   exact ⟨keep a hy _, by rw [← Act.put_comm a v undef h2]; exact h⟩
def wpAnyL (P : Program) (md : Region.Mode) (ops : Array Oper) (Q : Exit → Act → World → Prop) (S : World → Prop) (last : Nat) : Nat → Array Bool → Act → World → Prop
 | 0, listed, a, w => Region.ready md ops listed = [] ∧ Q .normal a w
 | fuel + 1, listed, a, w =>
  (Region.ready md ops listed = [] → Q .normal a w) ∧
  ∀ i ∈ Region.ready md ops listed, wpOp P ops Q i (fun a' w' => (i ≠ last → S w') ∧ wpAnyL P md ops Q S last fuel (listed.setIfInBounds i true) a' w') a w
theorem wpAny_of_L : ∀ (fuel : Nat) (listed : Array Bool) (a : Act) (w : World), wpAnyL P md ops Q S last fuel listed a w → wpAny P md ops Q fuel listed a w
 | 0, _, _, _, h => h
 | fuel + 1, _, _, _, h => ⟨h.1, fun i hi => wpOp_mono (fun a' w' h' => wpAny_of_L fuel _ a' w' h'.2) (h.2 i hi)⟩
theorem wpAnyL_first {i : Nat} {oi : Oper} {v : Value} (hi : ops[i]? = some oi) (hsel : ∀ (j : Nat) (o : Oper) cs b, ops[j]? = some o → o.op ≠ .select cs b)
 (hil : i ≠ last) (hdep : ∀ o, ops[last]? = some o → ∃ e ∈ o.after, Region.binds md e = true ∧ e.on = i)
 (hQ : ∀ c a w, Q (.panic c) (a.put oi.dst v) w → Q (.panic c) a w) :
 ∀ (fuel : Nat) (listed : Array Bool) (a : Act) (w : World),
  (∀ j oj, ops[j]? = some oj → j ≠ i → listed.getD j true = false → (∀ e ∈ oj.after, Region.binds md e = true → e.on ≠ i) → oi.apart ops oj = true) →
  i ∈ Region.ready md ops listed → YieldsC P ops S oi v a → S w →
  wpAnyL P md ops Q S last fuel (listed.setIfInBounds i true) (a.put oi.dst v) w → wpAnyL P md ops Q S last (fuel + 1) listed a w := by
 intro fuel
 induction fuel with
 | zero =>
  intro listed a w _ hr hy hS H
  refine ⟨fun h => (by rw [h] at hr; cases hr), fun j hj => ?_⟩
  by_cases hji : j = i
  · subst hji; exact hy.wpOp hi hS ⟨fun _ => hS, H⟩
  · have := ready_mono hj hji
    rw [H.1] at this
    cases this
 | succ fuel ih =>
  intro listed a w hfree hr hy hS H
  refine ⟨fun h => (by rw [h] at hr; cases hr), fun j hj => ?_⟩
  by_cases hji : j = i
  · subst hji; exact hy.wpOp hi hS ⟨fun _ => hS, H⟩
  · have h1 := H.2 j (ready_mono hj hji)
    obtain ⟨hjun, oj, hoj, hall⟩ := mem_ready.1 hj
    have hnot : ∀ e ∈ oj.after, Region.binds md e = true → e.on ≠ i := fun e he hb heq => by
     have h1 := hall e he hb
     have h0 := (mem_ready.1 hr).1
     rw [heq] at h1
     rcases Nat.lt_or_ge i listed.size with h' | h'
     · simp [h'] at h0 h1; rw [h0] at h1; cases h1
     · simp [Array.getElem?_eq_none h'] at h1
    have hjl : j ≠ last := fun e => by
     subst e
     obtain ⟨e, he, hb, heq⟩ := hdep oj hoj
     exact hnot e he hb heq
    have h2 := wpOp_putC hoj (hfree j oj hoj hji hjun hnot) (fun cs b => hsel i oi cs b hi) (fun cs b => hsel j oj cs b hoj) hQ hy h1
    have hfree' : ∀ k ok, ops[k]? = some ok → k ≠ i → (listed.setIfInBounds j true).getD k true = false →
     (∀ e ∈ ok.after, Region.binds md e = true → e.on ≠ i) → oi.apart ops ok = true := fun k ok hk hki hun hno => by
     refine hfree k ok hk hki ?_ hno
     by_cases hjk : j = k
     · subst hjk; exact hjun
     · rw [getD_set_ne true hjk] at hun; exact hun
    refine wpOp_mono (fun a' w' h3 => ⟨fun _ => h3.2.1 hjl, ih (listed.setIfInBounds j true) a' w' hfree' (ready_mono hr (Ne.symm hji)) h3.1 (h3.2.1 hjl) ?_⟩) h2
    rw [Array.setIfInBounds_comm _ _ hji]
    exact h3.2.2
theorem wpAnyL_all {rs : List Nat} {fuel : Nat} {listed : Array Bool} {a : Act} {w : World} (hr : Region.ready md ops listed = rs) (hne : rs ≠ [])
 (h : ∀ i ∈ rs, wpOp P ops Q i (fun a' w' => (i ≠ last → S w') ∧ wpAnyL P md ops Q S last fuel (listed.setIfInBounds i true) a' w') a w) : wpAnyL P md ops Q S last (fuel + 1) listed a w :=
 ⟨fun h0 => absurd (hr ▸ h0) hne, hr ▸ h⟩
theorem wpAnyL_done {listed : Array Bool} {a : Act} {w : World} (hr : Region.ready md ops listed = []) (h : Q .normal a w) : ∀ fuel, wpAnyL P md ops Q S last fuel listed a w
 | 0 => ⟨hr, h⟩
 | _ + 1 => ⟨fun _ => h, by rw [hr]; simp⟩
end
def leansB (md : Region.Mode) (ops : Array Oper) (last i : Nat) : Bool := match ops[last]? with | some o => o.after.any (fun e => Region.binds md e && e.on == i) && (i != last) | none => false
theorem takeL {P : Program} {md : Region.Mode} {l : List Oper} {Q : Exit → Act → World → Prop} {S : World → Prop} {last i : Nat} {oi : Oper} {rest : List Oper} {v : Value} {fuel : Nat} {listed : Array Bool} {a : Act} {w : World} (ho : l.drop i = oi :: rest)
 (hs : Region.noSelect l.toArray = true) (hf : Region.free md l.toArray listed i = true) (hr : (Region.ready md l.toArray listed).contains i = true) (hd : leansB md l.toArray last i = true)
 (hQ : ∀ c a w, Q (.panic c) (a.put oi.dst v) w → Q (.panic c) a w) (hy : YieldsC P l.toArray S oi v a) (hS : S w)
 (h : wpAnyL P md l.toArray Q S last fuel (listed.setIfInBounds i true) (a.put oi.dst v) w) : wpAnyL P md l.toArray Q S last (fuel + 1) listed a w := by
 have hd1 : i ≠ last := fun e => by
  subst e
  unfold leansB at hd
  split at hd
  · simp at hd
  · cases hd
 refine wpAnyL_first (drop_at ho) (Region.noSelect_spec hs) hd1 (fun o hol => ?_) hQ fuel listed a w (Region.free_spec (drop_at ho) hf) (by simpa using hr) hy hS h
 unfold leansB at hd
 rw [hol] at hd
 simp only [Bool.and_eq_true] at hd
 obtain ⟨n, hn, hb⟩ := Array.any_eq_true.1 hd.1
 simp only [Bool.and_eq_true, beq_iff_eq] at hb
 exact ⟨_, Array.getElem_mem hn, hb.1, hb.2⟩
theorem region_last {P : Program} {last id : Nat} {Q : Exit → Act → World → Prop} {a : Act} {w : World} {l : List Oper} {S : World → Prop} (hm : P.follows .mixedOrders = true) (h : wpAnyL P .any l.toArray Q S last l.toArray.size (Array.replicate l.toArray.size false) a w.drew) : (Code.region id l.toArray true).wp P Q a w :=
 wp_region_any hm (wpAny_of_L _ _ _ _ h)
end Go.Proofs.YtcgglolckkeeiaaGreat
namespace Go.Proofs.YtcgglolckkeeiaaGreat
set_option linter.unusedVariables false
open Go.RowKit Go.Deep
theorem zero_mt (w : World) : (zeroValue 47).run Tryz.prog w = .ok (.agg #[.slice none 0 0, .int .i64 0, .int .i64 0, .int .i64 0, .int .i64 0, .int .i64 0, .int .i64 0, .string ByteArray.empty]) w := by kernel_rfl
end Go.Proofs.YtcgglolckkeeiaaGreat
namespace Go.Proofs.YtcgglolckkeeiaaGreat
set_option linter.unusedVariables false
open Go.RowKit Go.Deep
attribute [local go_sem] Oper.semAt_some
theorem MtOk.kx {X : Nat → Prop} {W W' : World} {x : MtV} (h : MtOk W x) (k : KpX X W W') (s : ints x.m.d.path ≠ [] → ∀ ad, x.A = some ad → ¬ X ad.block) : MtOk W' x := ⟨k.rd h.rd s, h.len, h.nil, h.dig⟩
end Go.Proofs.YtcgglolckkeeiaaGreat
namespace Go.Proofs.YtcgglolckkeeiaaGreat
set_option linter.unusedVariables false
open Go.RowKit Go.Deep
attribute [local go_sem] Oper.semAt_some
theorem zero_cp (w : World) : (zeroValue 31).run Tryz.prog w = .ok (.agg #[.int .i64 0, .slice none 0 0, .slice none 0 0, .slice none 0 0, .int .i64 0, .slice none 0 0, .int .i64 0, .int .i64 0, .int .i64 0]) w := by kernel_rfl
end Go.Proofs.YtcgglolckkeeiaaGreat
namespace Go.Proofs.YtcgglolckkeeiaaGreat
set_option linter.unusedVariables false
open Go.RowKit Go.Deep
def cp0 : CpV := ⟨⟨0, none, 0, [], none, 0, []⟩, none, 0, [], 0, none, 0, [], ⟨0, 0, 0⟩⟩
structure Cd where
 params : Int
 V : List Int
 body : List Nd
 tests : List (List Int)
 fuel : Int
 muts : List Mt
 sc : Sc
def CpV.data (c : CpV) : Cd := ⟨c.p.params, c.p.V, c.p.body, c.testsL, c.fuel, c.muts, c.sc⟩
theorem cp0_ok (w : World) : CpOk w cp0 :=
 ⟨⟨by unfold InI cp0; simp, Nat.le_refl _, by unfold maxLen cp0; simp, fun _ => rfl, Rd.nil _ _, fun t h => by simp [cp0] at h, Nat.le_refl _, by unfold maxLen cp0; simp, fun _ => rfl, Rd.nil _ _, fun t h => by simp [cp0] at h⟩,
  by simp [cp0], by simp [cp0], Rd.nil _ _, fun x h => by simp [cp0] at h, by simp [cp0], fun x h => by simp [cp0] at h, fun _ => rfl, Rd.nil _ _, fun x h => by simp [cp0] at h, by simp [cp0], fun _ => rfl⟩
end Go.Proofs.YtcgglolckkeeiaaGreat
namespace Go.Proofs.YtcgglolckkeeiaaGreat
set_option linter.unusedVariables false
open Go.RowKit Go.Deep
theorem good_same {p q : PgV} (h1 : p.params = q.params) (h2 : p.V = q.V) (h3 : p.body = q.body) {t : Tr} (h : Good p t) : Good q t :=
 ⟨h3 ▸ h.hat, h3 ▸ h.size, by rw [← h1, ← h2]; exact h.vars, h.tag, h2 ▸ h.kind⟩
theorem fine_same {p q : PgV} (h1 : p.params = q.params) (h2 : p.V = q.V) (h3 : p.body = q.body) {t : Tr} (h : Fine p t) : Fine q t :=
 ⟨good_same h1 h2 h3 h.good, h3 ▸ h.len, h3 ▸ h.ar, h.dep⟩
theorem checkP_same {p q : PgV} (h1 : p.params = q.params) (h2 : p.V = q.V) (h3 : p.body = q.body) : checkP p = checkP q := by
 have e : (∃ t, Good p t) ↔ (∃ t, Good q t) := ⟨fun ⟨t, h⟩ => ⟨t, good_same h1 h2 h3 h⟩, fun ⟨t, h⟩ => ⟨t, good_same h1.symm h2.symm h3.symm h⟩⟩
 unfold checkP
 rw [h1, h2, h3]
 by_cases hq : ∃ t, Good q t
 · rw [if_pos hq, if_pos (e.2 hq)]
 · rw [if_neg hq, if_neg (fun h => hq (e.1 h))]
theorem inP_same {p q : PgV} (h1 : p.params = q.params) (h2 : p.V = q.V) (h3 : p.body = q.body) (d : Dl) : inP p d = inP q d := by
 unfold inP
 exact decide_eq_decide.2 ⟨fun ⟨t, h, h'⟩ => ⟨t, fine_same h1 h2 h3 h, h3 ▸ h'⟩, fun ⟨t, h, h'⟩ => ⟨t, fine_same h1.symm h2.symm h3.symm h, h3.symm ▸ h'⟩⟩
theorem scB_iff {a b : Sc} : scB a b = true ↔ a = b := by
 cases a; cases b
 simp [scB]
structure OkC (c : CpV) : Prop where
 prog : checkP c.p = 0
 suite : suiteZ c.p.params c.testsL c.fuel = 0
 len : c.muts.length ≤ 2000
 rise : riseM c.muts
 inp : ∀ m ∈ c.muts, inP c.p m.d = true
 odd : ∀ m ∈ c.muts, oddZ c.testsL.length m = false
 sc : c.sc = scoreZ c.muts
theorem orL_all : ∀ {l : List Int}, orL l = 0 ↔ ∀ x ∈ l, x = 0
 | [] => by simp [orL]
 | x :: l => by
  rw [orL]
  by_cases h : x = 0
  · rw [if_pos h, orL_all]; simp [h]
  · rw [if_neg h]; simp [h]
theorem unlessZ_iff {b : Bool} {n : Int} (h : n ≠ 0) : unlessZ b n = 0 ↔ b = true := by cases b <;> simp [unlessZ, h]
theorem okC {c : CpV} : cpCheckZ c = 0 ↔ OkC c := by
 unfold cpCheckZ
 rw [orL_all]
 simp only [List.mem_cons, List.not_mem_nil, or_false, forall_eq_or_imp, forall_eq]
 rw [unlessZ_iff (by decide), unlessZ_iff (by decide), unlessZ_iff (by decide), unlessZ_iff (by decide), unlessZ_iff (by decide), unlessZ_iff (by decide)]
 rw [riseB_iff, scB_iff]
 have el : c.muts.length = c.mts.length := by unfold CpV.muts; rw [List.length_map]
 have et : c.testsL.length = c.tests.length := by unfold CpV.testsL; rw [List.length_map]
 constructor
 · rintro ⟨h1, h2, h3, h4, h5, h6, h7⟩
   refine ⟨by simpa using h1, h2, by rw [el]; have := of_decide_eq_true h3; omega, h4, fun m hm => ?_, fun m hm => ?_, h7⟩
   · obtain ⟨x, hx, rfl⟩ := List.mem_map.1 hm
     have := h5
     simp only [Bool.not_eq_true', List.any_eq_false] at this
     simpa using this x hx
   · obtain ⟨x, hx, rfl⟩ := List.mem_map.1 hm
     have := h6
     simp only [Bool.not_eq_true', List.any_eq_false] at this
     rw [et]
     simpa using this x hx
 · intro h
   refine ⟨by simp [h.prog], h.suite, by have := h.len; rw [el] at this; exact decide_eq_true (by omega), h.rise, ?_, ?_, h.sc⟩
   · simp only [Bool.not_eq_true', List.any_eq_false]
     intro x hx
     simp [h.inp x.m (List.mem_map_of_mem hx)]
   · simp only [Bool.not_eq_true', List.any_eq_false]
     intro x hx
     have := h.odd x.m (List.mem_map_of_mem hx)
     rw [et] at this
     simp [this]
theorem data_iff {a b : CpV} : a.data = b.data ↔ (a.p.params = b.p.params ∧ a.p.V = b.p.V ∧ a.p.body = b.p.body) ∧ a.testsL = b.testsL ∧ a.fuel = b.fuel ∧ a.muts = b.muts ∧ a.sc = b.sc := by
 unfold CpV.data
 simp only [Cd.mk.injEq]
 constructor
 · rintro ⟨h1, h2, h3, h4, h5, h6, h7⟩; exact ⟨⟨h1, h2, h3⟩, h4, h5, h6, h7⟩
 · rintro ⟨⟨h1, h2, h3⟩, h4, h5, h6, h7⟩; exact ⟨h1, h2, h3, h4, h5, h6, h7⟩
theorem sameC_iff {a b : CpV} : sameC a b = true ↔ a.data = b.data := by
 rw [data_iff]
 unfold sameC sameP
 simp only [Bool.and_eq_true, decide_eq_true_eq, beq_iff_eq]
 constructor
 · rintro ⟨⟨h1, h2, h3⟩, h4, h5, ⟨h6, h7, h8⟩, h9⟩
   exact ⟨⟨h1, h2, h3⟩, h4, h5, h9, by rw [show a.sc = ⟨a.sc.alive, a.sc.killed, a.sc.timeout⟩ from rfl, h6, h7, h8]⟩
 · rintro ⟨h1, h2, h3, h4, h5⟩
   exact ⟨h1, h2, h3, ⟨by rw [h5], by rw [h5], by rw [h5]⟩, h4⟩
theorem OkC.same {a b : CpV} (h : OkC a) (e : a.data = b.data) : OkC b := by
 obtain ⟨⟨h1, h2, h3⟩, h4, h5, h6, h7⟩ := data_iff.1 e
 exact ⟨(checkP_same h1 h2 h3) ▸ h.prog, by rw [← h1, ← h4, ← h5]; exact h.suite, h6 ▸ h.len, h6 ▸ h.rise, fun m hm => (inP_same h1 h2 h3 m.d) ▸ h.inp m (h6 ▸ hm), fun m hm => by rw [← h4]; exact h.odd m (h6 ▸ hm), by rw [← h6, ← h7]; exact h.sc⟩
end Go.Proofs.YtcgglolckkeeiaaGreat
namespace Go.Proofs.YtcgglolckkeeiaaGreat
set_option linter.unusedVariables false
open Go.RowKit Go.Deep
def Sc.add (a b : Sc) : Sc := ⟨a.alive + b.alive, a.killed + b.killed, a.timeout + b.timeout⟩
end Go.Proofs.YtcgglolckkeeiaaGreat
namespace Go.Proofs.YtcgglolckkeeiaaGreat
set_option linter.unusedVariables false
open Go.RowKit Go.Deep
theorem right_verdict {m : Mt} (h : rightZ m = true) : m.verdict ≠ -1 := by
 intro e
 unfold rightZ at h
 rw [e] at h
 simp at h
theorem OkC.verdict {c : CpV} (h : OkC c) {m : Mt} (hm : m ∈ c.muts) : m.verdict ≠ -1 := by
 have := h.odd m hm
 unfold oddZ at this
 cases hr : rightZ m
 · rw [hr] at this; simp at this
 · exact right_verdict hr
end Go.Proofs.YtcgglolckkeeiaaGreat
