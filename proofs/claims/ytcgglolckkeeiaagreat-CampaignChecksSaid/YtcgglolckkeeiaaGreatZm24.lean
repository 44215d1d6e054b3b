/- Lemmas for CmAll. -/
import Derived.Test.YtcgglolckkeeiaaGreatZm21
import Derived.Test.YtcgglolckkeeiaaGreatZm22
import Derived.Test.YtcgglolckkeeiaaGreatZm23
import Derived.Test.YtcgglolckkeeiaaGreatZm10
namespace Go.Proofs.YtcgglolckkeeiaaGreat
set_option linter.unusedVariables false
open Go.RowKit Go.Deep
set_option maxRecDepth 100000 in
set_option maxHeartbeats 4000000 in
theorem rises_any (A : Option Addr) (cap n : Nat) (l : List MtV) (w : World) (hn : n = l.length) (hr : Rd w A (mtsC l)) (hl : l.length ≤ 1000000) (hok : ∀ x ∈ l, MtOk w x) :
 Calls Tryz.prog 74 #[.slice A n cap] w fun e w' => e = .returned (.bool (riseB (l.map MtV.m))) ∧ Below w.heap.size w w' := by
 have Hn := Lib.hid hn
 have hnI : (n : Int) ≤ 1000000 := by omega
 obtain ⟨S, hSd⟩ : ∃ S, S = (fun W => Rd W A (mtsC l) ∧ (∀ x ∈ l, MtOk W x) ∧ Below w.heap.size w W) := ⟨_, rfl⟩
 have stS : St S := by rw [hSd]; infer_instance
 have T1 : Hid (∀ W, S W → Rd W A (mtsC l)) := by show ∀ W, _; rw [hSd]; exact fun W h => h.1
 have T2 : Hid (∀ W, S W → ∀ x ∈ l, MtOk W x) := by show ∀ W, _; rw [hSd]; exact fun W h => h.2.1
 have T4 : Hid (∀ W, S W → Below w.heap.size w W) := by show ∀ W, _; rw [hSd]; exact fun W h => h.2.2
 have hS : S w := by rw [hSd]; exact ⟨hr, hok, Below.refl _ _⟩
 clear hSd hl hn hr hok
 go_enter Tryz.func74, Tryz.ntmps74
 go_wp2_with fail
 go_loopw [6] (fun i wr => ∃ k : Nat, i = .int .i64 (k : Int) ∧ k ≤ n ∧ Hid (riseM ((l.map MtV.m).take k)) ∧ S wr) (fun i _ => n - (intOf i).toNat)
 case atStart => exact ⟨0, by simp, Nat.zero_le _, Lib.hid (by rw [List.take_zero]; trivial), hS⟩
 case round =>
  clear hS
  obtain ⟨k, rfl, hk1, Hk, hS⟩ := hrel
  by_cases hkn : k < n
  rotate_left
  · have hge : ¬ ((k : Int) < (n : Int)) := by omega
    obtain rfl : k = n := by omega
    have Hf : Hid (riseB (l.map MtV.m) = true) := by
     show _ = _
     rw [riseB_iff]
     have := Hk.out
     rwa [List.take_of_length_le (by rw [List.length_map]; have := Hn.out; omega)] at this
    clear hkn Hk
    go_wp2_with fail
    go_ret
    exact ⟨ret_b Hf.out, T4.out _ hS⟩
  have hka : (k : Int) < (n : Int) := by omega
  obtain ⟨y, hy⟩ : ∃ y, l[k]? = some y := ⟨_, List.getElem?_eq_getElem (by have := Hn.out; omega)⟩
  have Hy := Lib.hid hy
  clear hy hkn
  rcases Nat.eq_zero_or_pos k with h0 | h0
  · subst h0
    have Hf : Hid (riseM ((l.map MtV.m).take (0 + 1))) := riseM_one _
    have e0 : ¬ ((0 : Int) < 0) := by omega
    clear Hk
    go_wp2_with fail
    refine region_hold S (by kernel_rfl) (by kernel_rfl) (St.drew hS) ?_
    clear hS
    iterate 3 (refine hold_value rfl ?_ (fun W hW => ?_) ?_; rotate_left; (focus (go_simp; exact rfl)); simp only [Act.put, List.setIfInBounds_toArray, List.set_cons_zero, List.set_cons_succ])
    iterate 13 (refine hold_skip rfl ?_; simp only [Act.put, List.setIfInBounds_toArray, List.set_cons_zero, List.set_cons_succ])
    (refine hold_value rfl ?_ (fun W hW => ?_) ?_; rotate_left; (focus (go_simp; exact rfl)); simp only [Act.put, List.setIfInBounds_toArray, List.set_cons_zero, List.set_cons_succ])
    refine wpHold_nil fun W hS => ?_
    go_wp2_with fail
    refine ⟨⟨0 + 1, by simp, by omega, Hf, hS⟩, ?_⟩
    simp only [intOf]; omega
  · obtain ⟨j, rfl⟩ : ∃ j, k = j + 1 := ⟨k - 1, by omega⟩
    obtain ⟨x, hx⟩ : ∃ x, l[j]? = some x := ⟨_, List.getElem?_eq_getElem (by have := Hn.out; omega)⟩
    have Hx := Lib.hid hx
    obtain ⟨ad, had, _⟩ := mt_at (T1.out _ hS) hx
    subst had
    have Hc : Hid (∀ W, S W → ∀ i u, x.cells[i]? = some u → W.cell? ((ad.add (j * 8)).add i) = some u) := fun W h => by
     obtain ⟨ad', e1, e2⟩ := mt_at (T1.out W h) Hx.out
     injection e1 with e1; subst e1; exact e2
    have Hd : Hid (∀ W, S W → ∀ i u, y.cells[i]? = some u → W.cell? ((ad.add ((j + 1) * 8)).add i) = some u) := fun W h => by
     obtain ⟨ad', e1, e2⟩ := mt_at (T1.out W h) Hy.out
     injection e1 with e1; subst e1; exact e2
    have e0 : (0 : Int) < ((j + 1 : Nat) : Int) := by omega
    have ej : IntKind.i64.wrap (((j + 1 : Nat) : Int) - 1) = (j : Int) := by rw [show ((j + 1 : Nat) : Int) - 1 = (j : Int) by omega]; exact IntWalk.i64_in _ (by omega)
    have hjn : (j : Int) < (n : Int) := by omega
    have hj0 : (0 : Int) ≤ (j : Int) := by omega
    clear hx h0
    go_wp2_with fail
    refine region_hold S (by kernel_rfl) (by kernel_rfl) (St.drew hS) ?_
    clear hS
    iterate 5 (refine hold_value rfl ?_ (fun W hW => ?_) ?_; rotate_left; (focus (go_simp; exact rfl)); simp only [Act.put, List.setIfInBounds_toArray, List.set_cons_zero, List.set_cons_succ])
    (refine hold_value rfl (.int .i64 (j : Int)) (fun W hW => (by first | (go_simp; done) | (go_simp; exact IntWalk.i64_in _ (by omega)))) ?_; simp only [Act.put, List.setIfInBounds_toArray, List.set_cons_zero, List.set_cons_succ])
    iterate 2 (refine hold_value rfl ?_ (fun W hW => ?_) ?_; rotate_left; (focus (go_simp; exact rfl)); simp only [Act.put, List.setIfInBounds_toArray, List.set_cons_zero, List.set_cons_succ])
    (refine hold_load_at rfl 42 _ rfl (_) rfl x.dl.cells.toList _ (fun W hW => mt_dlat (Hc.out W hW)) Tryz.underlying42 rfl (by kernel_rfl) ?_; simp only [Act.put, List.setIfInBounds_toArray, List.set_cons_zero, List.set_cons_succ])
    iterate 4 (refine hold_value rfl ?_ (fun W hW => ?_) ?_; rotate_left; (focus (go_simp; exact rfl)); simp only [Act.put, List.setIfInBounds_toArray, List.set_cons_zero, List.set_cons_succ])
    (refine hold_load_at rfl 42 _ rfl (_) rfl y.dl.cells.toList _ (fun W hW => mt_dlat (Hd.out W hW)) Tryz.underlying42 rfl (by kernel_rfl) ?_; simp only [Act.put, List.setIfInBounds_toArray, List.set_cons_zero, List.set_cons_succ])
    (refine hold_call_new rfl 25 _ (fun W => by (go_simp; try rfl)) (.int .i64 (cmpD x.m.d y.m.d)) (fun W hW => dlCmp_any x.dl y.dl W (T2.out W hW x (List.mem_of_getElem? Hx.out)).dl (T2.out W hW y (List.mem_of_getElem? Hy.out)).dl) ?_; simp only [Act.put, List.setIfInBounds_toArray, List.set_cons_zero, List.set_cons_succ])
    iterate 2 (refine hold_value rfl ?_ (fun W hW => ?_) ?_; rotate_left; (focus (go_simp; exact rfl)); simp only [Act.put, List.setIfInBounds_toArray, List.set_cons_zero, List.set_cons_succ])
    refine wpHold_nil fun W hS => ?_
    obtain ⟨c, hc⟩ : ∃ c, c = cmpD x.m.d y.m.d := ⟨_, rfl⟩
    rw [← hc]
    have hx' : (l.map MtV.m)[j]? = some x.m := by rw [List.getElem?_map, Hx.out]; rfl
    have hy' : (l.map MtV.m)[j + 1]? = some y.m := by rw [List.getElem?_map, Hy.out]; rfl
    by_cases h0 : 0 ≤ c
    · have Hf : Hid (riseB (l.map MtV.m) = false) := by
       show _ = _
       have h1 : ¬ riseB (l.map MtV.m) = true := fun h => by
        have := riseM_get (riseB_iff.1 h) hx' hy'
        omega
       simpa using h1
      clear Hk hc hx' hy' Hc Hd
      go_wp2_with fail
      go_ret
      exact ⟨ret_b Hf.out, T4.out _ hS⟩
    · have Hf : Hid (riseM ((l.map MtV.m).take (j + 1 + 1))) := riseM_take_succ hx' hy' Hk.out (by omega)
      clear Hk hc hx' hy' Hc Hd
      go_wp2_with fail
      refine ⟨⟨j + 1 + 1, by simp, by omega, Hf, hS⟩, ?_⟩
      simp only [intOf]; omega
end Go.Proofs.YtcgglolckkeeiaaGreat
namespace Go.Proofs.YtcgglolckkeeiaaGreat
set_option linter.unusedVariables false
open Go.RowKit Go.Deep
def hasD (l : List Dl) (d : Dl) : Bool := l.any fun e => decide (cmpD e d = 0)
theorem hasD_iff {l : List Dl} {d : Dl} : hasD l d = true ↔ d ∈ l := by
 unfold hasD
 rw [List.any_eq_true]
 constructor
 · rintro ⟨e, he, h⟩
   rw [decide_eq_true_eq, cmpD_eq] at h
   exact h ▸ he
 · exact fun h => ⟨d, h, by rw [decide_eq_true_eq]; exact cmpD_self d⟩
instance St.dlt_all {l : List DlV} : St (fun W => ∀ x ∈ l, DlT W x) := ⟨fun h b x hx => (h x hx).go b⟩
set_option maxRecDepth 100000 in
set_option maxHeartbeats 4000000 in
theorem strange_any (L : Nat) (A : Option Addr) (cap : Nat) (xs : List DlV) (x : MtV) (w : World) (hr : Row w L 94 #[.slice A xs.length cap]) (hrd : Rd w A (dlsC xs)) (hl : xs.length ≤ 1000000) (hok : ∀ y ∈ xs, DlT w y) (hrise : riseD (xs.map DlV.d)) (hx : MtOk w x) :
 Calls Tryz.prog 63 #[.agg x.cells.toArray, .pointer (some ⟨L, 0, none⟩)] w fun e w' => e = .returned (.bool (!hasD (xs.map DlV.d) x.m.d)) ∧ Below w.heap.size w w' := by
 have Hrd := Lib.hid hrd
 have Hok := Lib.hid hok
 have Hx := Lib.hid hx
 have Hl := Lib.hid hl
 have Hrise := Lib.hid hrise
 clear hrd hok hx hl hrise
 go_enter Tryz.func63, Tryz.ntmps63
 go_wp2_with (refine at_box _ _ rfl ?_)
 refine Stop.to ?_
 refine wpList_box_gen rfl 47 _ rfl x.cells.toArray rfl ?_
 intro G Gw Gh Gr Gb
 have b1 := (Below.refl w.heap.size w).trans (Gb.mono Gh)
 have rL := hr.below b1 hr.lt
 have c0 := rL.cellv (i := 0) (v := .slice A xs.length cap) rfl
 have Hs := Lib.hid (find_any A cap xs x.dl Gw (Hrd.out.go b1) Hl.out (fun y hy => ((Hok.out y hy).go b1).ok) (Hx.out.go b1).dl Hrise.out)
 clear hr rL Gb Gh Hrd Hok Hx Hl Hrise
 go_wp2_with (refine wpList_load_at rfl 42 _ rfl ⟨G, 0, none⟩ rfl x.dl.cells.toList _ (mt_dl Gr) Tryz.underlying42 rfl (by kernel_rfl) ?_)
 refine Hs.out.mono ?_
 rintro e w1 ⟨⟨r, rfl, hd⟩, b2⟩
 have b3 := b1.trans (b2.mono b1.size)
 have hd2 : 0 ≤ r ↔ hasD (xs.map DlV.d) x.m.d = true := by rw [hd, hasD_iff]; exact Iff.rfl
 clear Hs Gr b1 b2 c0 hd
 by_cases h0 : r < 0
 · have Hz : Hid ((!hasD (xs.map DlV.d) x.m.d) = true) := by
    show _ = _
    have h1 : ¬ hasD (xs.map DlV.d) x.m.d = true := fun h => by have := hd2.2 h; omega
    simpa using h1
   clear hd2
   go_wp2_with fail
   go_ret
   exact ⟨ret_b Hz.out, b3⟩
 · have Hz : Hid ((!hasD (xs.map DlV.d) x.m.d) = false) := by
    show _ = _
    have h1 := hd2.1 (by omega)
    simp only [h1, Bool.not_true]
   clear hd2
   go_wp2_with fail
   go_ret
   exact ⟨ret_b (Hz.out.trans (decide_eq_false (by omega)).symm), b3⟩
set_option maxRecDepth 100000 in
set_option maxHeartbeats 4000000 in
theorem idxS_any (P : Nat) (A : Option Addr) (cap : Nat) (l : List MtV) (p : MtV → Bool) (w : World) (S : World → Prop) [stS : St S] (hS : S w) (hrd : ∀ W, S W → Rd W A (mtsC l)) (hlo : ∀ W, S W → Below w.heap.size w W)
 (hp : ∀ x ∈ l, ∀ W, S W → Calls Tryz.prog 63 #[.agg x.cells.toArray, .pointer (some ⟨P, 0, none⟩)] W fun e W' => e = .returned (.bool (p x)) ∧ Below W.heap.size W W') (hl : l.length ≤ 1000000) :
 Calls Tryz.prog 123 #[.slice A l.length cap, .func (.func 63) #[] #[.pointer (some ⟨P, 0, none⟩)]] w fun e w' => e = .returned (.int .i64 (idxZ p l)) ∧ Below w.heap.size w w' := by
 have Hp := Lib.hid hp
 have Hrd := Lib.hid hrd
 have Hlo := Lib.hid hlo
 have hl' : (l.length : Int) ≤ 1000000 := by omega
 clear hp hrd hlo hl
 go_enter Tryz.func123, Tryz.ntmps123
 go_wp2
 go_loopw [8] (fun i wr => ∃ k : Nat, i = .int .i64 (k : Int) ∧ k ≤ l.length ∧ Hid (∀ y ∈ l.take k, p y = false) ∧ S wr) (fun i _ => l.length - (intOf i).toNat)
 case atStart => exact ⟨0, rfl, Nat.zero_le _, Lib.hid (fun x hx => by simp at hx), hS⟩
 case round =>
  clear hS
  obtain ⟨k, rfl, hk, Hall, hS⟩ := hrel
  by_cases hlt : k < l.length
  · obtain ⟨x, hx⟩ : ∃ x, l[k]? = some x := ⟨_, List.getElem?_eq_getElem hlt⟩
    obtain ⟨ad, had, hcx⟩ := mt_at (Hrd.out _ hS) hx
    have Hcx : Hid (∀ j u, x.cells[j]? = some u → wr.cell? ((ad.add (k * 8)).add j) = some u) := hcx
    have Hx := Lib.hid hx
    have Hcall := Lib.hid (Hp.out x (List.mem_of_getElem? hx) wr hS)
    have hltI : (k : Int) < (l.length : Int) := by omega
    clear hx hlt hcx
    subst had
    go_wp2_with (refine wpList_load_at rfl 47 _ rfl (ad.add (k * 8)) rfl x.cells _ Hcx.out Tryz.underlying47 rfl (by kernel_rfl) ?_)
    refine Hcall.out.mono ?_
    rintro e w' ⟨rfl, b1⟩
    replace hS := stS.go hS b1
    clear b1 Hcall Hcx
    cases hs : p x
    · have Hn := Lib.hid (take_allB_step Hall.out Hx.out hs)
      clear hs Hx
      go_wp2_with fail
      go_roundw
      case rel => exact ⟨k + 1, by go_num, by omega, Hn, hS⟩
      case measure => simp [intOf]; omega
    · have Hn := Lib.hid (idxZ_yes Hall.out Hx.out hs)
      clear hs Hx
      go_wp2_with fail
      go_ret
      exact ⟨by rw [Hn.out]; rfl, Hlo.out _ hS⟩
  · obtain rfl : k = l.length := by omega
    have Hn := Lib.hid (idxZ_no (p := p) (l := l) (by have := Hall.out; rwa [List.take_length] at this))
    clear hlt hk
    go_wp2
    go_ret
    exact ⟨by rw [Hn.out]; rfl, Hlo.out _ hS⟩
set_option maxRecDepth 100000 in
set_option maxHeartbeats 4000000 in
theorem contS_any (P : Nat) (A : Option Addr) (cap : Nat) (l : List MtV) (p : MtV → Bool) (w : World) (S : World → Prop) [stS : St S] (hS : S w) (hrd : ∀ W, S W → Rd W A (mtsC l)) (hlo : ∀ W, S W → Below w.heap.size w W)
 (hp : ∀ x ∈ l, ∀ W, S W → Calls Tryz.prog 63 #[.agg x.cells.toArray, .pointer (some ⟨P, 0, none⟩)] W fun e W' => e = .returned (.bool (p x)) ∧ Below W.heap.size W W') (hl : l.length ≤ 1000000) :
 Calls Tryz.prog 76 #[.slice A l.length cap, .func (.func 63) #[] #[.pointer (some ⟨P, 0, none⟩)]] w fun e w' => e = .returned (.bool (l.any p)) ∧ Below w.heap.size w w' := by
 have Hc := Lib.hid (idxS_any P A cap l p w S hS hrd hlo hp hl)
 clear hp hrd hlo hl hS
 go_enter Tryz.func76, Tryz.ntmps76
 go_wp2_with fail
 refine Hc.out.mono ?_
 rintro e w' ⟨rfl, b1⟩
 have Ha := Lib.hid (idxZ_any p l)
 clear Hc
 go_wp2_with fail
 go_ret
 exact ⟨ret_b Ha.out.symm, b1⟩
theorem cp_test {W : World} {G : Nat} {t : TypeId} {c : CpV} (h : Row W G t c.cells) : W.cell? ⟨G, 3, none⟩ = some (.slice c.tA c.tests.length c.tcap) := h.cellv (i := 3) rfl
theorem cp_mut {W : World} {G : Nat} {t : TypeId} {c : CpV} (h : Row W G t c.cells) : W.cell? ⟨G, 5, none⟩ = some (.slice c.mA c.mts.length c.mcap) := h.cellv (i := 5) rfl
def oddZ (n : Nat) (x : Mt) : Bool := !rightZ x || decide ((n : Int) ≤ x.test)
set_option maxRecDepth 100000 in
set_option maxHeartbeats 4000000 in
theorem oddM_any (C : Nat) (c : CpV) (x : MtV) (w : World) (hr : Row w C 31 c.cells) (hx : MtOk w x) :
 Calls Tryz.prog 65 #[.agg x.cells.toArray, .pointer (some ⟨C, 0, none⟩)] w fun e w' => e = .returned (.bool (oddZ c.tests.length x.m)) ∧ Below w.heap.size w w' := by
 have Hx := Lib.hid hx
 clear hx
 go_enter Tryz.func65, Tryz.ntmps65
 go_wp2_with (refine at_box _ _ rfl ?_)
 refine Stop.to ?_
 refine wpList_box_gen rfl 47 _ rfl x.cells.toArray rfl ?_
 intro G Gw Gh Gr Gb
 have b1 := (Below.refl w.heap.size w).trans (Gb.mono Gh)
 have rC := hr.below b1 hr.lt
 have Hs := Lib.hid (right_any x Gw (Hx.out.go b1))
 clear hr Gb Gh Hx
 go_wp2_with (refine wpList_load_row rfl 47 _ rfl G rfl 47 x.cells.toArray (0, 0) _ Gr Tryz.underlying47 rfl (by kernel_rfl) ?_)
 refine Hs.out.mono ?_
 rintro e w1 ⟨rfl, b2⟩
 have b3 := b1.trans (b2.mono b1.size)
 have c1 := cp_test (rC.below b2 rC.lt)
 have c2 : w1.cell? ⟨G, 4, none⟩ = some (.int .i64 x.m.test) := (Gr.below b2 Gr.lt).cellv (i := 4) rfl
 clear Hs Gr rC b1 b2
 obtain ⟨b, hb⟩ : ∃ b, b = rightZ x.m := ⟨_, rfl⟩
 have Hz : Hid (oddZ c.tests.length x.m = (!b || decide ((c.tests.length : Int) ≤ x.m.test))) := by show _ = _; rw [hb]; rfl
 rw [← hb]
 clear hb
 cases b
 · go_wp2_with fail
   go_ret
   exact ⟨ret_b (Hz.out.trans rfl), b3⟩
 · go_wp2_with fail
   go_ret
   exact ⟨ret_b (Hz.out.trans (by simp)), b3⟩
set_option maxRecDepth 100000 in
set_option maxHeartbeats 4000000 in
theorem idxO_any (P : Nat) (A : Option Addr) (cap : Nat) (l : List MtV) (p : MtV → Bool) (w : World) (S : World → Prop) [stS : St S] (hS : S w) (hrd : ∀ W, S W → Rd W A (mtsC l)) (hlo : ∀ W, S W → Below w.heap.size w W)
 (hp : ∀ x ∈ l, ∀ W, S W → Calls Tryz.prog 65 #[.agg x.cells.toArray, .pointer (some ⟨P, 0, none⟩)] W fun e W' => e = .returned (.bool (p x)) ∧ Below W.heap.size W W') (hl : l.length ≤ 1000000) :
 Calls Tryz.prog 123 #[.slice A l.length cap, .func (.func 65) #[] #[.pointer (some ⟨P, 0, none⟩)]] w fun e w' => e = .returned (.int .i64 (idxZ p l)) ∧ Below w.heap.size w w' := by
 have Hp := Lib.hid hp
 have Hrd := Lib.hid hrd
 have Hlo := Lib.hid hlo
 have hl' : (l.length : Int) ≤ 1000000 := by omega
 clear hp hrd hlo hl
 go_enter Tryz.func123, Tryz.ntmps123
 go_wp2
 go_loopw [8] (fun i wr => ∃ k : Nat, i = .int .i64 (k : Int) ∧ k ≤ l.length ∧ Hid (∀ y ∈ l.take k, p y = false) ∧ S wr) (fun i _ => l.length - (intOf i).toNat)
 case atStart => exact ⟨0, rfl, Nat.zero_le _, Lib.hid (fun x hx => by simp at hx), hS⟩
 case round =>
  clear hS
  obtain ⟨k, rfl, hk, Hall, hS⟩ := hrel
  by_cases hlt : k < l.length
  · obtain ⟨x, hx⟩ : ∃ x, l[k]? = some x := ⟨_, List.getElem?_eq_getElem hlt⟩
    obtain ⟨ad, had, hcx⟩ := mt_at (Hrd.out _ hS) hx
    have Hcx : Hid (∀ j u, x.cells[j]? = some u → wr.cell? ((ad.add (k * 8)).add j) = some u) := hcx
    have Hx := Lib.hid hx
    have Hcall := Lib.hid (Hp.out x (List.mem_of_getElem? hx) wr hS)
    have hltI : (k : Int) < (l.length : Int) := by omega
    clear hx hlt hcx
    subst had
    go_wp2_with (refine wpList_load_at rfl 47 _ rfl (ad.add (k * 8)) rfl x.cells _ Hcx.out Tryz.underlying47 rfl (by kernel_rfl) ?_)
    refine Hcall.out.mono ?_
    rintro e w' ⟨rfl, b1⟩
    replace hS := stS.go hS b1
    clear b1 Hcall Hcx
    cases hs : p x
    · have Hn := Lib.hid (take_allB_step Hall.out Hx.out hs)
      clear hs Hx
      go_wp2_with fail
      go_roundw
      case rel => exact ⟨k + 1, by go_num, by omega, Hn, hS⟩
      case measure => simp [intOf]; omega
    · have Hn := Lib.hid (idxZ_yes Hall.out Hx.out hs)
      clear hs Hx
      go_wp2_with fail
      go_ret
      exact ⟨by rw [Hn.out]; rfl, Hlo.out _ hS⟩
  · obtain rfl : k = l.length := by omega
    have Hn := Lib.hid (idxZ_no (p := p) (l := l) (by have := Hall.out; rwa [List.take_length] at this))
    clear hlt hk
    go_wp2
    go_ret
    exact ⟨by rw [Hn.out]; rfl, Hlo.out _ hS⟩
set_option maxRecDepth 100000 in
set_option maxHeartbeats 4000000 in
theorem contO_any (P : Nat) (A : Option Addr) (cap : Nat) (l : List MtV) (p : MtV → Bool) (w : World) (S : World → Prop) [stS : St S] (hS : S w) (hrd : ∀ W, S W → Rd W A (mtsC l)) (hlo : ∀ W, S W → Below w.heap.size w W)
 (hp : ∀ x ∈ l, ∀ W, S W → Calls Tryz.prog 65 #[.agg x.cells.toArray, .pointer (some ⟨P, 0, none⟩)] W fun e W' => e = .returned (.bool (p x)) ∧ Below W.heap.size W W') (hl : l.length ≤ 1000000) :
 Calls Tryz.prog 76 #[.slice A l.length cap, .func (.func 65) #[] #[.pointer (some ⟨P, 0, none⟩)]] w fun e w' => e = .returned (.bool (l.any p)) ∧ Below w.heap.size w w' := by
 have Hc := Lib.hid (idxO_any P A cap l p w S hS hrd hlo hp hl)
 clear hp hrd hlo hl hS
 go_enter Tryz.func76, Tryz.ntmps76
 go_wp2_with fail
 refine Hc.out.mono ?_
 rintro e w' ⟨rfl, b1⟩
 have Ha := Lib.hid (idxZ_any p l)
 clear Hc
 go_wp2_with fail
 go_ret
 exact ⟨ret_b Ha.out.symm, b1⟩
end Go.Proofs.YtcgglolckkeeiaaGreat
namespace Go.Proofs.YtcgglolckkeeiaaGreat
set_option linter.unusedVariables false
open Go.RowKit Go.Deep
set_option maxRecDepth 100000 in
set_option maxHeartbeats 4000000 in
theorem ckC3_any (C : Nat) (c : CpV) (w : World) (hr : Row w C 31 c.cells) (hc : CpOk w c) :
 Calls Tryz.prog 67 #[.pointer (some ⟨C, 0, none⟩)] w fun e w' => e = .returned (.int .i64 (unlessZ (checkP c.p == 0) 23)) ∧ Below w.heap.size w w' := by
 have Hs := Lib.hid (kCheck_any c.p hc.bl w hc.pok)
 clear hc
 go_enter Tryz.func67, Tryz.ntmps67
 go_wp2_with (refine wpList_load_at rfl 25 _ rfl ⟨C, 0, none⟩ rfl c.p.cells.toList _ (cp_head hr) Tryz.underlying25 rfl (by kernel_rfl) ?_)
 refine Hs.out.mono ?_
 rintro e w1 ⟨rfl, b1⟩
 clear Hs hr
 go_wp2_with fail
 refine (unlessC_any _ 23 w1).mono ?_
 rintro e w2 ⟨rfl, rfl⟩
 go_wp2_with fail
 go_ret
 exact ⟨rfl, b1⟩
set_option maxRecDepth 100000 in
set_option maxHeartbeats 4000000 in
theorem ckC4_any (C : Nat) (c : CpV) (w : World) (hr : Row w C 31 c.cells) (hc : CpOk w c) :
 Calls Tryz.prog 70 #[.pointer (some ⟨C, 0, none⟩)] w fun e w' => e = .returned (.int .i64 (suiteZ c.p.params c.testsL c.fuel)) ∧ Below w.heap.size w w' := by
 have Hs := Lib.hid (suite_any c.p.params c.fuel c.tA c.tcap c.tests w hc.trd (by have := hc.tlen; omega))
 have c0 := hr.cellv (i := 0) (v := .int .i64 c.p.params) rfl
 have c3 := cp_test hr
 have c4 := hr.cellv (i := 4) (v := .int .i64 c.fuel) rfl
 clear hr hc
 go_enter Tryz.func70, Tryz.ntmps70
 go_wp2_with fail
 refine Hs.out.mono ?_
 rintro e w1 ⟨rfl, b1⟩
 clear Hs c0 c3 c4
 go_wp2_with fail
 go_ret
 exact ⟨rfl, b1⟩
set_option maxRecDepth 100000 in
set_option maxHeartbeats 4000000 in
theorem ckC5_any (C : Nat) (c : CpV) (w : World) (hr : Row w C 31 c.cells) :
 Calls Tryz.prog 72 #[.pointer (some ⟨C, 0, none⟩)] w fun e w' => e = .returned (.int .i64 (unlessZ (decide ((c.mts.length : Int) ≤ 2000)) 24)) ∧ Below w.heap.size w w' := by
 have c5 := cp_mut hr
 clear hr
 go_enter Tryz.func72, Tryz.ntmps72
 go_wp2_with fail
 refine (unlessC_any _ 24 w).mono ?_
 rintro e w2 ⟨rfl, rfl⟩
 clear c5
 go_wp2_with fail
 go_ret
 exact ⟨rfl, Below.refl _ _⟩
set_option maxRecDepth 100000 in
set_option maxHeartbeats 4000000 in
theorem ckC6_any (C : Nat) (c : CpV) (w : World) (hr : Row w C 31 c.cells) (hc : CpOk w c) :
 Calls Tryz.prog 73 #[.pointer (some ⟨C, 0, none⟩)] w fun e w' => e = .returned (.int .i64 (unlessZ (riseB c.muts) 20)) ∧ Below w.heap.size w w' := by
 have Hs := Lib.hid (rises_any c.mA c.mcap _ c.mts w rfl hc.mrd (by have := hc.mlen; omega) hc.mok)
 have c5 := cp_mut hr
 clear hr hc
 go_enter Tryz.func73, Tryz.ntmps73
 go_wp2_with fail
 refine Hs.out.mono ?_
 rintro e w1 ⟨rfl, b1⟩
 clear Hs c5
 go_wp2_with fail
 refine (unlessC_any _ 20 w1).mono ?_
 rintro e w2 ⟨rfl, rfl⟩
 go_wp2_with fail
 go_ret
 exact ⟨rfl, b1⟩
set_option maxRecDepth 100000 in
set_option maxHeartbeats 4000000 in
theorem ckC7_any (C F L : Nat) (c : CpV) (A : Option Addr) (cap : Nat) (xs : List DlV) (w : World) (hr : Row w C 31 c.cells) (hc : CpOk w c) (hf : Row w F 98 #[.func (.func 63) #[] #[.pointer (some ⟨L, 0, none⟩)]])
 (hL : Row w L 94 #[.slice A xs.length cap]) (hrd : Rd w A (dlsC xs)) (hl : xs.length ≤ 1000000) (hok : ∀ y ∈ xs, DlT w y) (hrise : riseD (xs.map DlV.d)) :
 Calls Tryz.prog 75 #[.pointer (some ⟨C, 0, none⟩), .pointer (some ⟨F, 0, none⟩)] w fun e w' => e = .returned (.int .i64 (unlessZ (!c.mts.any fun x => !hasD (xs.map DlV.d) x.m.d) 17)) ∧ Below w.heap.size w w' := by
 have Hs := Lib.hid (contS_any L c.mA c.mcap c.mts (fun x => !hasD (xs.map DlV.d) x.m.d) w (fun W => (Row W L 94 #[.slice A xs.length cap] ∧ Rd W A (dlsC xs) ∧ ∀ y ∈ xs, DlT W y) ∧ CpOk W c ∧ Below w.heap.size w W) ⟨⟨hL, hrd, hok⟩, hc, Below.refl _ _⟩ (fun W h => h.2.1.mrd) (fun W h => h.2.2) (fun x hx W h => strange_any L A cap xs x W h.1.1 h.1.2.1 hl h.1.2.2 hrise (h.2.1.mok x hx)) (by have := hc.mlen; omega))
 have c5 := cp_mut hr
 have cf := hf.cellv (i := 0) (v := .func (.func 63) #[] #[.pointer (some ⟨L, 0, none⟩)]) rfl
 clear hr hc hf hL hrd hl hok hrise
 go_enter Tryz.func75, Tryz.ntmps75
 go_wp2_with fail
 refine Hs.out.mono ?_
 rintro e w1 ⟨rfl, b1⟩
 clear Hs c5 cf
 go_wp2_with fail
 refine (unlessC_any _ 17 w1).mono ?_
 rintro e w2 ⟨rfl, rfl⟩
 go_wp2_with fail
 go_ret
 exact ⟨rfl, b1⟩
set_option maxRecDepth 100000 in
set_option maxHeartbeats 4000000 in
theorem ckC8_any (C F : Nat) (c : CpV) (w : World) (hr : Row w C 31 c.cells) (hc : CpOk w c) (hf : Row w F 98 #[.func (.func 65) #[] #[.pointer (some ⟨C, 0, none⟩)]]) :
 Calls Tryz.prog 77 #[.pointer (some ⟨C, 0, none⟩), .pointer (some ⟨F, 0, none⟩)] w fun e w' => e = .returned (.int .i64 (unlessZ (!c.mts.any fun x => oddZ c.tests.length x.m) 21)) ∧ Below w.heap.size w w' := by
 have Hs := Lib.hid (contO_any C c.mA c.mcap c.mts (fun x => oddZ c.tests.length x.m) w (fun W => Row W C 31 c.cells ∧ CpOk W c ∧ Below w.heap.size w W) ⟨hr, hc, Below.refl _ _⟩ (fun W h => h.2.1.mrd) (fun W h => h.2.2) (fun x hx W h => oddM_any C c x W h.1 (h.2.1.mok x hx)) (by have := hc.mlen; omega))
 have c5 := cp_mut hr
 have cf := hf.cellv (i := 0) (v := .func (.func 65) #[] #[.pointer (some ⟨C, 0, none⟩)]) rfl
 clear hr hc hf
 go_enter Tryz.func77, Tryz.ntmps77
 go_wp2_with fail
 refine Hs.out.mono ?_
 rintro e w1 ⟨rfl, b1⟩
 clear Hs c5 cf
 go_wp2_with fail
 refine (unlessC_any _ 21 w1).mono ?_
 rintro e w2 ⟨rfl, rfl⟩
 go_wp2_with fail
 go_ret
 exact ⟨rfl, b1⟩
theorem cp_score {W : World} {G : Nat} {t : TypeId} {c : CpV} (h : Row W G t c.cells) : ∀ j v, c.sc.cells.toList[j]? = some v → W.cell? ((⟨G, 6, none⟩ : Addr).add j) = some v :=
 Row.from_ (cur := c.cells) h 6 (fun j v hj => by
  match j, hj with
  | 0, hj | 1, hj | 2, hj => exact hj
  | j + 3, hj => simp [Sc.cells] at hj)
def scB (a b : Sc) : Bool := a.alive == b.alive && (a.killed == b.killed && a.timeout == b.timeout)
set_option maxRecDepth 100000 in
set_option maxHeartbeats 4000000 in
theorem ckC9_any (C : Nat) (c : CpV) (w : World) (hr : Row w C 31 c.cells) (hc : CpOk w c) :
 Calls Tryz.prog 78 #[.pointer (some ⟨C, 0, none⟩)] w fun e w' => e = .returned (.int .i64 (unlessZ (scB c.sc (scoreZ c.muts)) 22)) ∧ Below w.heap.size w w' := by
 obtain ⟨S, hSd⟩ : ∃ S, S = (fun W => Row W C 31 c.cells ∧ CpOk W c ∧ Below w.heap.size w W) := ⟨_, rfl⟩
 have stS : St S := by rw [hSd]; infer_instance
 have T0 : Hid (∀ W, S W → Row W C 31 c.cells) := by show ∀ W, _; rw [hSd]; exact fun W h => h.1
 have T1 : Hid (∀ W, S W → CpOk W c) := by show ∀ W, _; rw [hSd]; exact fun W h => h.2.1
 have T2 : Hid (∀ W, S W → Below w.heap.size w W) := by show ∀ W, _; rw [hSd]; exact fun W h => h.2.2
 have hS : S w := by rw [hSd]; exact ⟨hr, hc, Below.refl _ _⟩
 clear hSd hr hc
 go_enter Tryz.func78, Tryz.ntmps78
 go_wp2_with fail
 refine region_hold S (by kernel_rfl) (by kernel_rfl) (St.drew hS) ?_
 clear hS
 (refine hold_value rfl ?_ (fun W hW => ?_) ?_; rotate_left; (focus (go_simp; exact rfl)); simp only [Act.put, List.setIfInBounds_toArray, List.set_cons_zero, List.set_cons_succ])
 (refine hold_load_at rfl 29 _ rfl (_) rfl [.int .i64 c.sc.alive, .int .i64 c.sc.killed, .int .i64 c.sc.timeout] _ (fun W hW => cp_score (T0.out W hW)) Tryz.underlying29 rfl (by kernel_rfl) ?_; simp only [Act.put, List.setIfInBounds_toArray, List.set_cons_zero, List.set_cons_succ])
 (refine hold_value rfl ?_ (fun W hW => ?_) ?_; rotate_left; (focus (go_simp; exact rfl)); simp only [Act.put, List.setIfInBounds_toArray, List.set_cons_zero, List.set_cons_succ])
 (refine hold_value rfl ?_ (fun W hW => ?_) ?_; rotate_left; (focus (have c5 := cp_mut (T0.out W hW); go_simp; exact rfl)); simp only [Act.put, List.setIfInBounds_toArray, List.set_cons_zero, List.set_cons_succ])
 (refine hold_call_new rfl 24 _ (fun W => by (go_simp; try rfl)) (.agg #[.int .i64 (scoreZ c.muts).alive, .int .i64 (scoreZ c.muts).killed, .int .i64 (scoreZ c.muts).timeout]) (fun W hW => score_any c.mA c.mcap c.mts W (T1.out W hW).mrd (by have := (T1.out W hW).mlen; omega)) ?_; simp only [Act.put, List.setIfInBounds_toArray, List.set_cons_zero, List.set_cons_succ])
 (refine hold_value rfl (.bool (scB c.sc (scoreZ c.muts))) (fun W hW => (by unfold scB; go_simp; repeat (first | rfl | split); all_goals simp [*])) ?_; simp only [Act.put, List.setIfInBounds_toArray, List.set_cons_zero, List.set_cons_succ])
 (refine hold_call_new rfl 68 _ (fun W => by (go_simp; try rfl)) (.int .i64 (unlessZ (scB c.sc (scoreZ c.muts)) 22)) (fun W hW => ((unlessC_any (scB c.sc (scoreZ c.muts)) 22 W).mono fun _ _ ⟨h1, h2⟩ => ⟨h1, h2 ▸ Below.refl _ _⟩)) ?_; simp only [Act.put, List.setIfInBounds_toArray, List.set_cons_zero, List.set_cons_succ])
 (refine hold_value rfl ?_ (fun W hW => ?_) ?_; rotate_left; (focus (go_simp; exact rfl)); simp only [Act.put, List.setIfInBounds_toArray, List.set_cons_zero, List.set_cons_succ])
 refine wpHold_nil fun W hS => ?_
 go_wp2_with fail
 go_ret
 exact ⟨rfl, T2.out _ hS⟩
end Go.Proofs.YtcgglolckkeeiaaGreat
