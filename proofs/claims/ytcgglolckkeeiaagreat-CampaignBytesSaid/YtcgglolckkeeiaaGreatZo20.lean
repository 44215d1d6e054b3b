/- Lemmas for CoAll. -/
import Derived.Test.YtcgglolckkeeiaaGreatZo19
import Derived.Test.YtcgglolckkeeiaaGreatZo9
set_option linter.unusedVariables false
set_option linter.unusedSimpArgs false
namespace Go.Proofs.YtcgglolckkeeiaaGreat
open Go.RowKit Go.Deep
def hasD (l : List Dl) (d : Dl) : Bool := l.any fun e => decide (cmpD e d = 0)
theorem hasD_iff {l : List Dl} {d : Dl} : hasD l d = true ↔ d ∈ l := by
 unfold hasD
 rw [List.any_eq_true]
 constructor
 · rintro ⟨e, he, h⟩
   rw [decide_eq_true_eq, cmpD_eq] at h
   exact h ▸ he
 · exact fun h => ⟨d, h, by rw [decide_eq_true_eq]; exact cmpD_self d⟩
instance St.dlt_all {l : List DlV} : St (fun W => ∀ x ∈ l, DlT W x) := ⟨fun h b x hx => (h x hx).go b⟩
set_option maxRecDepth 100000 in
set_option maxHeartbeats 4000000 in
theorem strange_any (L : Nat) (A : Option Addr) (cap : Nat) (xs : List DlV) (x : MtV) (w : World) (hr : Row w L 94 #[.slice A xs.length cap]) (hrd : Rd w A (dlsC xs)) (hl : xs.length ≤ 1000000) (hok : ∀ y ∈ xs, DlT w y) (hrise : riseD (xs.map DlV.d)) (hx : MtOk w x) :
 Calls Tryz.prog 63 #[.agg x.cells.toArray, .pointer (some ⟨L, 0, none⟩)] w fun e w' => e = .returned (.bool (!hasD (xs.map DlV.d) x.m.d)) ∧ Below w.heap.size w w' := by
 have Hrd := Lib.hid hrd
 have Hok := Lib.hid hok
 have Hx := Lib.hid hx
 have Hl := Lib.hid hl
 have Hrise := Lib.hid hrise
 clear hrd hok hx hl hrise
 go_enter Tryz.func63, Tryz.ntmps63
 go_wp2_with (refine at_box _ _ rfl ?_)
 refine Stop.to ?_
 refine wpList_box_gen rfl 47 _ rfl x.cells.toArray rfl ?_
 intro G Gw Gh Gr Gb
 have b1 := (Below.refl w.heap.size w).trans (Gb.mono Gh)
 have rL := hr.below b1 hr.lt
 have c0 := rL.cellv (i := 0) (v := .slice A xs.length cap) rfl
 have Hs := Lib.hid (find_any A cap xs x.dl Gw (Hrd.out.go b1) Hl.out (fun y hy => ((Hok.out y hy).go b1).ok) (Hx.out.go b1).dl Hrise.out)
 clear hr rL Gb Gh Hrd Hok Hx Hl Hrise
 go_wp2_with (refine wpList_load_at rfl 42 _ rfl ⟨G, 0, none⟩ rfl x.dl.cells.toList _ (mt_dl Gr) Tryz.underlying42 rfl (by kernel_rfl) ?_)
 refine Hs.out.mono ?_
 rintro e w1 ⟨⟨r, rfl, hd⟩, b2⟩
 have b3 := b1.trans (b2.mono b1.size)
 have hd2 : 0 ≤ r ↔ hasD (xs.map DlV.d) x.m.d = true := by rw [hd, hasD_iff]; exact Iff.rfl
 clear Hs Gr b1 b2 c0 hd
 by_cases h0 : r < 0
 · have Hz : Hid ((!hasD (xs.map DlV.d) x.m.d) = true) := by
    show _ = _
    have h1 : ¬ hasD (xs.map DlV.d) x.m.d = true := fun h => by have := hd2.2 h; omega
    simpa using h1
   clear hd2
   go_wp2_with fail
   go_ret
   exact ⟨ret_b Hz.out, b3⟩
 · have Hz : Hid ((!hasD (xs.map DlV.d) x.m.d) = false) := by
    show _ = _
    have h1 := hd2.1 (by omega)
    simp only [h1, Bool.not_true]
   clear hd2
   go_wp2_with fail
   go_ret
   exact ⟨ret_b (Hz.out.trans (decide_eq_false (by omega)).symm), b3⟩
set_option maxRecDepth 100000 in
set_option maxHeartbeats 4000000 in
theorem idxS_any (P : Nat) (A : Option Addr) (cap : Nat) (l : List MtV) (p : MtV → Bool) (w : World) (S : World → Prop) [stS : St S] (hS : S w) (hrd : ∀ W, S W → Rd W A (mtsC l)) (hlo : ∀ W, S W → Below w.heap.size w W)
 (hp : ∀ x ∈ l, ∀ W, S W → Calls Tryz.prog 63 #[.agg x.cells.toArray, .pointer (some ⟨P, 0, none⟩)] W fun e W' => e = .returned (.bool (p x)) ∧ Below W.heap.size W W') (hl : l.length ≤ 1000000) :
 Calls Tryz.prog 123 #[.slice A l.length cap, .func (.func 63) #[] #[.pointer (some ⟨P, 0, none⟩)]] w fun e w' => e = .returned (.int .i64 (idxZ p l)) ∧ Below w.heap.size w w' := by
 have Hp := Lib.hid hp
 have Hrd := Lib.hid hrd
 have Hlo := Lib.hid hlo
 have hl' : (l.length : Int) ≤ 1000000 := by omega
 clear hp hrd hlo hl
 go_enter Tryz.func123, Tryz.ntmps123
 go_wp2
 go_loopw [8] (fun i wr => ∃ k : Nat, i = .int .i64 (k : Int) ∧ k ≤ l.length ∧ Hid (∀ y ∈ l.take k, p y = false) ∧ S wr) (fun i _ => l.length - (intOf i).toNat)
 case atStart => exact ⟨0, rfl, Nat.zero_le _, Lib.hid (fun x hx => by simp at hx), hS⟩
 case round =>
  clear hS
  obtain ⟨k, rfl, hk, Hall, hS⟩ := hrel
  by_cases hlt : k < l.length
  · obtain ⟨x, hx⟩ : ∃ x, l[k]? = some x := ⟨_, List.getElem?_eq_getElem hlt⟩
    obtain ⟨ad, had, hcx⟩ := mt_at (Hrd.out _ hS) hx
    have Hcx : Hid (∀ j u, x.cells[j]? = some u → wr.cell? ((ad.add (k * 8)).add j) = some u) := hcx
    have Hx := Lib.hid hx
    have Hcall := Lib.hid (Hp.out x (List.mem_of_getElem? hx) wr hS)
    have hltI : (k : Int) < (l.length : Int) := by omega
    clear hx hlt hcx
    subst had
    go_wp2_with (refine wpList_load_at rfl 47 _ rfl (ad.add (k * 8)) rfl x.cells _ Hcx.out Tryz.underlying47 rfl (by kernel_rfl) ?_)
    refine Hcall.out.mono ?_
    rintro e w' ⟨rfl, b1⟩
    replace hS := stS.go hS b1
    clear b1 Hcall Hcx
    cases hs : p x
    · have Hn := Lib.hid (take_allB_step Hall.out Hx.out hs)
      clear hs Hx
      go_wp2_with fail
      go_roundw
      case rel => exact ⟨k + 1, by go_num, by omega, Hn, hS⟩
      case measure => simp [intOf]; omega
    · have Hn := Lib.hid (idxZ_yes Hall.out Hx.out hs)
      clear hs Hx
      go_wp2_with fail
      go_ret
      exact ⟨by rw [Hn.out]; rfl, Hlo.out _ hS⟩
  · obtain rfl : k = l.length := by omega
    have Hn := Lib.hid (idxZ_no (p := p) (l := l) (by have := Hall.out; rwa [List.take_length] at this))
    clear hlt hk
    go_wp2
    go_ret
    exact ⟨by rw [Hn.out]; rfl, Hlo.out _ hS⟩
set_option maxRecDepth 100000 in
set_option maxHeartbeats 4000000 in
theorem contS_any (P : Nat) (A : Option Addr) (cap : Nat) (l : List MtV) (p : MtV → Bool) (w : World) (S : World → Prop) [stS : St S] (hS : S w) (hrd : ∀ W, S W → Rd W A (mtsC l)) (hlo : ∀ W, S W → Below w.heap.size w W)
 (hp : ∀ x ∈ l, ∀ W, S W → Calls Tryz.prog 63 #[.agg x.cells.toArray, .pointer (some ⟨P, 0, none⟩)] W fun e W' => e = .returned (.bool (p x)) ∧ Below W.heap.size W W') (hl : l.length ≤ 1000000) :
 Calls Tryz.prog 76 #[.slice A l.length cap, .func (.func 63) #[] #[.pointer (some ⟨P, 0, none⟩)]] w fun e w' => e = .returned (.bool (l.any p)) ∧ Below w.heap.size w w' := by
 have Hc := Lib.hid (idxS_any P A cap l p w S hS hrd hlo hp hl)
 clear hp hrd hlo hl hS
 go_enter Tryz.func76, Tryz.ntmps76
 go_wp2_with fail
 refine Hc.out.mono ?_
 rintro e w' ⟨rfl, b1⟩
 have Ha := Lib.hid (idxZ_any p l)
 clear Hc
 go_wp2_with fail
 go_ret
 exact ⟨ret_b Ha.out.symm, b1⟩
theorem cp_test {W : World} {G : Nat} {t : TypeId} {c : CpV} (h : Row W G t c.cells) : W.cell? ⟨G, 3, none⟩ = some (.slice c.tA c.tests.length c.tcap) := h.cellv (i := 3) rfl
theorem cp_mut {W : World} {G : Nat} {t : TypeId} {c : CpV} (h : Row W G t c.cells) : W.cell? ⟨G, 5, none⟩ = some (.slice c.mA c.mts.length c.mcap) := h.cellv (i := 5) rfl
def oddZ (n : Nat) (x : Mt) : Bool := !rightZ x || decide ((n : Int) ≤ x.test)
set_option maxRecDepth 100000 in
set_option maxHeartbeats 4000000 in
theorem oddM_any (C : Nat) (c : CpV) (x : MtV) (w : World) (hr : Row w C 31 c.cells) (hx : MtOk w x) :
 Calls Tryz.prog 65 #[.agg x.cells.toArray, .pointer (some ⟨C, 0, none⟩)] w fun e w' => e = .returned (.bool (oddZ c.tests.length x.m)) ∧ Below w.heap.size w w' := by
 have Hx := Lib.hid hx
 clear hx
 go_enter Tryz.func65, Tryz.ntmps65
 go_wp2_with (refine at_box _ _ rfl ?_)
 refine Stop.to ?_
 refine wpList_box_gen rfl 47 _ rfl x.cells.toArray rfl ?_
 intro G Gw Gh Gr Gb
 have b1 := (Below.refl w.heap.size w).trans (Gb.mono Gh)
 have rC := hr.below b1 hr.lt
 have Hs := Lib.hid (right_any x Gw (Hx.out.go b1))
 clear hr Gb Gh Hx
 go_wp2_with (refine wpList_load_row rfl 47 _ rfl G rfl 47 x.cells.toArray (0, 0) _ Gr Tryz.underlying47 rfl (by kernel_rfl) ?_)
 refine Hs.out.mono ?_
 rintro e w1 ⟨rfl, b2⟩
 have b3 := b1.trans (b2.mono b1.size)
 have c1 := cp_test (rC.below b2 rC.lt)
 have c2 : w1.cell? ⟨G, 4, none⟩ = some (.int .i64 x.m.test) := (Gr.below b2 Gr.lt).cellv (i := 4) rfl
 clear Hs Gr rC b1 b2
 obtain ⟨b, hb⟩ : ∃ b, b = rightZ x.m := ⟨_, rfl⟩
 have Hz : Hid (oddZ c.tests.length x.m = (!b || decide ((c.tests.length : Int) ≤ x.m.test))) := by show _ = _; rw [hb]; rfl
 rw [← hb]
 clear hb
 cases b
 · go_wp2_with fail
   go_ret
   exact ⟨ret_b (Hz.out.trans rfl), b3⟩
 · go_wp2_with fail
   go_ret
   exact ⟨ret_b (Hz.out.trans (by simp)), b3⟩
set_option maxRecDepth 100000 in
set_option maxHeartbeats 4000000 in
theorem idxO_any (P : Nat) (A : Option Addr) (cap : Nat) (l : List MtV) (p : MtV → Bool) (w : World) (S : World → Prop) [stS : St S] (hS : S w) (hrd : ∀ W, S W → Rd W A (mtsC l)) (hlo : ∀ W, S W → Below w.heap.size w W)
 (hp : ∀ x ∈ l, ∀ W, S W → Calls Tryz.prog 65 #[.agg x.cells.toArray, .pointer (some ⟨P, 0, none⟩)] W fun e W' => e = .returned (.bool (p x)) ∧ Below W.heap.size W W') (hl : l.length ≤ 1000000) :
 Calls Tryz.prog 123 #[.slice A l.length cap, .func (.func 65) #[] #[.pointer (some ⟨P, 0, none⟩)]] w fun e w' => e = .returned (.int .i64 (idxZ p l)) ∧ Below w.heap.size w w' := by
 have Hp := Lib.hid hp
 have Hrd := Lib.hid hrd
 have Hlo := Lib.hid hlo
 have hl' : (l.length : Int) ≤ 1000000 := by omega
 clear hp hrd hlo hl
 go_enter Tryz.func123, Tryz.ntmps123
 go_wp2
 go_loopw [8] (fun i wr => ∃ k : Nat, i = .int .i64 (k : Int) ∧ k ≤ l.length ∧ Hid (∀ y ∈ l.take k, p y = false) ∧ S wr) (fun i _ => l.length - (intOf i).toNat)
 case atStart => exact ⟨0, rfl, Nat.zero_le _, Lib.hid (fun x hx => by simp at hx), hS⟩
 case round =>
  clear hS
  obtain ⟨k, rfl, hk, Hall, hS⟩ := hrel
  by_cases hlt : k < l.length
  · obtain ⟨x, hx⟩ : ∃ x, l[k]? = some x := ⟨_, List.getElem?_eq_getElem hlt⟩
    obtain ⟨ad, had, hcx⟩ := mt_at (Hrd.out _ hS) hx
    have Hcx : Hid (∀ j u, x.cells[j]? = some u → wr.cell? ((ad.add (k * 8)).add j) = some u) := hcx
    have Hx := Lib.hid hx
    have Hcall := Lib.hid (Hp.out x (List.mem_of_getElem? hx) wr hS)
    have hltI : (k : Int) < (l.length : Int) := by omega
    clear hx hlt hcx
    subst had
    go_wp2_with (refine wpList_load_at rfl 47 _ rfl (ad.add (k * 8)) rfl x.cells _ Hcx.out Tryz.underlying47 rfl (by kernel_rfl) ?_)
    refine Hcall.out.mono ?_
    rintro e w' ⟨rfl, b1⟩
    replace hS := stS.go hS b1
    clear b1 Hcall Hcx
    cases hs : p x
    · have Hn := Lib.hid (take_allB_step Hall.out Hx.out hs)
      clear hs Hx
      go_wp2_with fail
      go_roundw
      case rel => exact ⟨k + 1, by go_num, by omega, Hn, hS⟩
      case measure => simp [intOf]; omega
    · have Hn := Lib.hid (idxZ_yes Hall.out Hx.out hs)
      clear hs Hx
      go_wp2_with fail
      go_ret
      exact ⟨by rw [Hn.out]; rfl, Hlo.out _ hS⟩
  · obtain rfl : k = l.length := by omega
    have Hn := Lib.hid (idxZ_no (p := p) (l := l) (by have := Hall.out; rwa [List.take_length] at this))
    clear hlt hk
    go_wp2
    go_ret
    exact ⟨by rw [Hn.out]; rfl, Hlo.out _ hS⟩
set_option maxRecDepth 100000 in
set_option maxHeartbeats 4000000 in
theorem contO_any (P : Nat) (A : Option Addr) (cap : Nat) (l : List MtV) (p : MtV → Bool) (w : World) (S : World → Prop) [stS : St S] (hS : S w) (hrd : ∀ W, S W → Rd W A (mtsC l)) (hlo : ∀ W, S W → Below w.heap.size w W)
 (hp : ∀ x ∈ l, ∀ W, S W → Calls Tryz.prog 65 #[.agg x.cells.toArray, .pointer (some ⟨P, 0, none⟩)] W fun e W' => e = .returned (.bool (p x)) ∧ Below W.heap.size W W') (hl : l.length ≤ 1000000) :
 Calls Tryz.prog 76 #[.slice A l.length cap, .func (.func 65) #[] #[.pointer (some ⟨P, 0, none⟩)]] w fun e w' => e = .returned (.bool (l.any p)) ∧ Below w.heap.size w w' := by
 have Hc := Lib.hid (idxO_any P A cap l p w S hS hrd hlo hp hl)
 clear hp hrd hlo hl hS
 go_enter Tryz.func76, Tryz.ntmps76
 go_wp2_with fail
 refine Hc.out.mono ?_
 rintro e w' ⟨rfl, b1⟩
 have Ha := Lib.hid (idxZ_any p l)
 clear Hc
 go_wp2_with fail
 go_ret
 exact ⟨ret_b Ha.out.symm, b1⟩
end Go.Proofs.YtcgglolckkeeiaaGreat
namespace Go.Proofs.YtcgglolckkeeiaaGreat
open Go.RowKit Go.Deep
set_option maxRecDepth 100000 in
set_option maxHeartbeats 4000000 in
theorem ckC3_any (C : Nat) (c : CpV) (w : World) (hr : Row w C 31 c.cells) (hc : CpOk w c) :
 Calls Tryz.prog 67 #[.pointer (some ⟨C, 0, none⟩)] w fun e w' => e = .returned (.int .i64 (unlessZ (checkP c.p == 0) 23)) ∧ Below w.heap.size w w' := by
 have Hs := Lib.hid (kCheck_any c.p hc.bl w hc.pok)
 clear hc
 go_enter Tryz.func67, Tryz.ntmps67
 go_wp2_with (refine wpList_load_at rfl 25 _ rfl ⟨C, 0, none⟩ rfl c.p.cells.toList _ (cp_head hr) Tryz.underlying25 rfl (by kernel_rfl) ?_)
 refine Hs.out.mono ?_
 rintro e w1 ⟨rfl, b1⟩
 clear Hs hr
 go_wp2_with fail
 refine (unlessC_any _ 23 w1).mono ?_
 rintro e w2 ⟨rfl, rfl⟩
 go_wp2_with fail
 go_ret
 exact ⟨rfl, b1⟩
set_option maxRecDepth 100000 in
set_option maxHeartbeats 4000000 in
theorem ckC4_any (C : Nat) (c : CpV) (w : World) (hr : Row w C 31 c.cells) (hc : CpOk w c) :
 Calls Tryz.prog 70 #[.pointer (some ⟨C, 0, none⟩)] w fun e w' => e = .returned (.int .i64 (suiteZ c.p.params c.testsL c.fuel)) ∧ Below w.heap.size w w' := by
 have Hs := Lib.hid (suite_any c.p.params c.fuel c.tA c.tcap c.tests w hc.trd (by have := hc.tlen; omega))
 have c0 := hr.cellv (i := 0) (v := .int .i64 c.p.params) rfl
 have c3 := cp_test hr
 have c4 := hr.cellv (i := 4) (v := .int .i64 c.fuel) rfl
 clear hr hc
 go_enter Tryz.func70, Tryz.ntmps70
 go_wp2_with fail
 refine Hs.out.mono ?_
 rintro e w1 ⟨rfl, b1⟩
 clear Hs c0 c3 c4
 go_wp2_with fail
 go_ret
 exact ⟨rfl, b1⟩
set_option maxRecDepth 100000 in
set_option maxHeartbeats 4000000 in
theorem ckC5_any (C : Nat) (c : CpV) (w : World) (hr : Row w C 31 c.cells) :
 Calls Tryz.prog 72 #[.pointer (some ⟨C, 0, none⟩)] w fun e w' => e = .returned (.int .i64 (unlessZ (decide ((c.mts.length : Int) ≤ 2000)) 24)) ∧ Below w.heap.size w w' := by
 have c5 := cp_mut hr
 clear hr
 go_enter Tryz.func72, Tryz.ntmps72
 go_wp2_with fail
 refine (unlessC_any _ 24 w).mono ?_
 rintro e w2 ⟨rfl, rfl⟩
 clear c5
 go_wp2_with fail
 go_ret
 exact ⟨rfl, Below.refl _ _⟩
set_option maxRecDepth 100000 in
set_option maxHeartbeats 4000000 in
theorem ckC6_any (C : Nat) (c : CpV) (w : World) (hr : Row w C 31 c.cells) (hc : CpOk w c) :
 Calls Tryz.prog 73 #[.pointer (some ⟨C, 0, none⟩)] w fun e w' => e = .returned (.int .i64 (unlessZ (riseB c.muts) 20)) ∧ Below w.heap.size w w' := by
 have Hs := Lib.hid (rises_any c.mA c.mcap _ c.mts w rfl hc.mrd (by have := hc.mlen; omega) hc.mok)
 have c5 := cp_mut hr
 clear hr hc
 go_enter Tryz.func73, Tryz.ntmps73
 go_wp2_with fail
 refine Hs.out.mono ?_
 rintro e w1 ⟨rfl, b1⟩
 clear Hs c5
 go_wp2_with fail
 refine (unlessC_any _ 20 w1).mono ?_
 rintro e w2 ⟨rfl, rfl⟩
 go_wp2_with fail
 go_ret
 exact ⟨rfl, b1⟩
set_option maxRecDepth 100000 in
set_option maxHeartbeats 4000000 in
theorem ckC7_any (C F L : Nat) (c : CpV) (A : Option Addr) (cap : Nat) (xs : List DlV) (w : World) (hr : Row w C 31 c.cells) (hc : CpOk w c) (hf : Row w F 98 #[.func (.func 63) #[] #[.pointer (some ⟨L, 0, none⟩)]])
 (hL : Row w L 94 #[.slice A xs.length cap]) (hrd : Rd w A (dlsC xs)) (hl : xs.length ≤ 1000000) (hok : ∀ y ∈ xs, DlT w y) (hrise : riseD (xs.map DlV.d)) :
 Calls Tryz.prog 75 #[.pointer (some ⟨C, 0, none⟩), .pointer (some ⟨F, 0, none⟩)] w fun e w' => e = .returned (.int .i64 (unlessZ (!c.mts.any fun x => !hasD (xs.map DlV.d) x.m.d) 17)) ∧ Below w.heap.size w w' := by
 have Hs := Lib.hid (contS_any L c.mA c.mcap c.mts (fun x => !hasD (xs.map DlV.d) x.m.d) w (fun W => (Row W L 94 #[.slice A xs.length cap] ∧ Rd W A (dlsC xs) ∧ ∀ y ∈ xs, DlT W y) ∧ CpOk W c ∧ Below w.heap.size w W) ⟨⟨hL, hrd, hok⟩, hc, Below.refl _ _⟩ (fun W h => h.2.1.mrd) (fun W h => h.2.2) (fun x hx W h => strange_any L A cap xs x W h.1.1 h.1.2.1 hl h.1.2.2 hrise (h.2.1.mok x hx)) (by have := hc.mlen; omega))
 have c5 := cp_mut hr
 have cf := hf.cellv (i := 0) (v := .func (.func 63) #[] #[.pointer (some ⟨L, 0, none⟩)]) rfl
 clear hr hc hf hL hrd hl hok hrise
 go_enter Tryz.func75, Tryz.ntmps75
 go_wp2_with fail
 refine Hs.out.mono ?_
 rintro e w1 ⟨rfl, b1⟩
 clear Hs c5 cf
 go_wp2_with fail
 refine (unlessC_any _ 17 w1).mono ?_
 rintro e w2 ⟨rfl, rfl⟩
 go_wp2_with fail
 go_ret
 exact ⟨rfl, b1⟩
set_option maxRecDepth 100000 in
set_option maxHeartbeats 4000000 in
theorem ckC8_any (C F : Nat) (c : CpV) (w : World) (hr : Row w C 31 c.cells) (hc : CpOk w c) (hf : Row w F 98 #[.func (.func 65) #[] #[.pointer (some ⟨C, 0, none⟩)]]) :
 Calls Tryz.prog 77 #[.pointer (some ⟨C, 0, none⟩), .pointer (some ⟨F, 0, none⟩)] w fun e w' => e = .returned (.int .i64 (unlessZ (!c.mts.any fun x => oddZ c.tests.length x.m) 21)) ∧ Below w.heap.size w w' := by
 have Hs := Lib.hid (contO_any C c.mA c.mcap c.mts (fun x => oddZ c.tests.length x.m) w (fun W => Row W C 31 c.cells ∧ CpOk W c ∧ Below w.heap.size w W) ⟨hr, hc, Below.refl _ _⟩ (fun W h => h.2.1.mrd) (fun W h => h.2.2) (fun x hx W h => oddM_any C c x W h.1 (h.2.1.mok x hx)) (by have := hc.mlen; omega))
 have c5 := cp_mut hr
 have cf := hf.cellv (i := 0) (v := .func (.func 65) #[] #[.pointer (some ⟨C, 0, none⟩)]) rfl
 clear hr hc hf
 go_enter Tryz.func77, Tryz.ntmps77
 go_wp2_with fail
 refine Hs.out.mono ?_
 rintro e w1 ⟨rfl, b1⟩
 clear Hs c5 cf
 go_wp2_with fail
 refine (unlessC_any _ 21 w1).mono ?_
 rintro e w2 ⟨rfl, rfl⟩
 go_wp2_with fail
 go_ret
 exact ⟨rfl, b1⟩
theorem cp_score {W : World} {G : Nat} {t : TypeId} {c : CpV} (h : Row W G t c.cells) : ∀ j v, c.sc.cells.toList[j]? = some v → W.cell? ((⟨G, 6, none⟩ : Addr).add j) = some v :=
 Row.from_ (cur := c.cells) h 6 (fun j v hj => by
  match j, hj with
  | 0, hj | 1, hj | 2, hj => exact hj
  | j + 3, hj => simp [Sc.cells] at hj)
def scB (a b : Sc) : Bool := a.alive == b.alive && (a.killed == b.killed && a.timeout == b.timeout)
set_option maxRecDepth 100000 in
set_option maxHeartbeats 4000000 in
theorem ckC9_any (C : Nat) (c : CpV) (w : World) (hr : Row w C 31 c.cells) (hc : CpOk w c) :
 Calls Tryz.prog 78 #[.pointer (some ⟨C, 0, none⟩)] w fun e w' => e = .returned (.int .i64 (unlessZ (scB c.sc (scoreZ c.muts)) 22)) ∧ Below w.heap.size w w' := by
 obtain ⟨S, hSd⟩ : ∃ S, S = (fun W => Row W C 31 c.cells ∧ CpOk W c ∧ Below w.heap.size w W) := ⟨_, rfl⟩
 have stS : St S := by rw [hSd]; infer_instance
 have T0 : Hid (∀ W, S W → Row W C 31 c.cells) := by show ∀ W, _; rw [hSd]; exact fun W h => h.1
 have T1 : Hid (∀ W, S W → CpOk W c) := by show ∀ W, _; rw [hSd]; exact fun W h => h.2.1
 have T2 : Hid (∀ W, S W → Below w.heap.size w W) := by show ∀ W, _; rw [hSd]; exact fun W h => h.2.2
 have hS : S w := by rw [hSd]; exact ⟨hr, hc, Below.refl _ _⟩
 clear hSd hr hc
 go_enter Tryz.func78, Tryz.ntmps78
 go_wp2_with fail
 refine region_hold S (by kernel_rfl) (by kernel_rfl) (St.drew hS) ?_
 clear hS
 (refine hold_value rfl ?_ (fun W hW => ?_) ?_; rotate_left; (focus (go_simp; exact rfl)); simp only [Act.put, List.setIfInBounds_toArray, List.set_cons_zero, List.set_cons_succ])
 (refine hold_load_at rfl 29 _ rfl (_) rfl [.int .i64 c.sc.alive, .int .i64 c.sc.killed, .int .i64 c.sc.timeout] _ (fun W hW => cp_score (T0.out W hW)) Tryz.underlying29 rfl (by kernel_rfl) ?_; simp only [Act.put, List.setIfInBounds_toArray, List.set_cons_zero, List.set_cons_succ])
 (refine hold_value rfl ?_ (fun W hW => ?_) ?_; rotate_left; (focus (go_simp; exact rfl)); simp only [Act.put, List.setIfInBounds_toArray, List.set_cons_zero, List.set_cons_succ])
 (refine hold_value rfl ?_ (fun W hW => ?_) ?_; rotate_left; (focus (have c5 := cp_mut (T0.out W hW); go_simp; exact rfl)); simp only [Act.put, List.setIfInBounds_toArray, List.set_cons_zero, List.set_cons_succ])
 (refine hold_call_new rfl 24 _ (fun W => by (go_simp; try rfl)) (.agg #[.int .i64 (scoreZ c.muts).alive, .int .i64 (scoreZ c.muts).killed, .int .i64 (scoreZ c.muts).timeout]) (fun W hW => score_any c.mA c.mcap c.mts W (T1.out W hW).mrd (by have := (T1.out W hW).mlen; omega)) ?_; simp only [Act.put, List.setIfInBounds_toArray, List.set_cons_zero, List.set_cons_succ])
 (refine hold_value rfl (.bool (scB c.sc (scoreZ c.muts))) (fun W hW => (by unfold scB; go_simp; repeat (first | rfl | split); all_goals simp [*])) ?_; simp only [Act.put, List.setIfInBounds_toArray, List.set_cons_zero, List.set_cons_succ])
 (refine hold_call_new rfl 68 _ (fun W => by (go_simp; try rfl)) (.int .i64 (unlessZ (scB c.sc (scoreZ c.muts)) 22)) (fun W hW => ((unlessC_any (scB c.sc (scoreZ c.muts)) 22 W).mono fun _ _ ⟨h1, h2⟩ => ⟨h1, h2 ▸ Below.refl _ _⟩)) ?_; simp only [Act.put, List.setIfInBounds_toArray, List.set_cons_zero, List.set_cons_succ])
 (refine hold_value rfl ?_ (fun W hW => ?_) ?_; rotate_left; (focus (go_simp; exact rfl)); simp only [Act.put, List.setIfInBounds_toArray, List.set_cons_zero, List.set_cons_succ])
 refine wpHold_nil fun W hS => ?_
 go_wp2_with fail
 go_ret
 exact ⟨rfl, T2.out _ hS⟩
end Go.Proofs.YtcgglolckkeeiaaGreat
namespace Go.Proofs.YtcgglolckkeeiaaGreat
open Go.RowKit Go.Deep
noncomputable def cpCheckZ (c : CpV) : Int := orL [unlessZ (checkP c.p == 0) 23, suiteZ c.p.params c.testsL c.fuel, unlessZ (decide ((c.mts.length : Int) ≤ 2000)) 24, unlessZ (riseB c.muts) 20, unlessZ (!c.mts.any fun x => !inP c.p x.m.d) 17, unlessZ (!c.mts.any fun x => oddZ c.tests.length x.m) 21, unlessZ (scB c.sc (scoreZ c.muts)) 22]
theorem orL_zero {l : List Int} (h : ∀ (j : Nat) (x : Int), l[j]? = some x → x = 0) : orL l = 0 := by
 induction l with
 | nil => rfl
 | cons a l ih =>
  have h0 : a = 0 := h 0 a rfl
  rw [orL, if_pos h0]
  exact ih fun j x hx => h (j + 1) x (by simpa using hx)
theorem orL_first : ∀ {l : List Int} {k : Nat} {e : Int}, (∀ j, j < k → l[j]? = some 0) → l[k]? = some e → e ≠ 0 → orL l = e
 | [], _, _, _, h, _ => by simp at h
 | a :: l, 0, e, _, h, hne => by
  simp at h
  rw [orL, h, if_neg hne]
 | a :: l, k + 1, e, hz, h, hne => by
  have h0 : a = 0 := by have := hz 0 (by omega); simpa using this
  rw [orL, if_pos h0]
  exact orL_first (k := k) (fun j hj => by have := hz (j + 1) (by omega); simpa using this) (by simpa using h) hne
theorem zero_fm (w : World) : (zeroValue 98).run Tryz.prog w = .ok .nilFunc w := by kernel_rfl
theorem zero_ld (w : World) : (zeroValue 94).run Tryz.prog w = .ok (.slice none 0 0) w := by kernel_rfl
theorem zero_f7 (w : World) : (zeroValue 104).run Tryz.prog w = .ok (.agg #[.nilFunc, .nilFunc, .nilFunc, .nilFunc, .nilFunc, .nilFunc, .nilFunc]) w := by kernel_rfl
set_option maxRecDepth 100000 in
set_option maxHeartbeats 8000000 in
theorem cpCheck_any (c : CpV) (w : World) (hc : CpOk w c) :
 Calls Tryz.prog 26 #[.agg c.cells] w fun e w' => e = .returned (.int .i64 (cpCheckZ c)) ∧ Below w.heap.size w w' := by
 have Hc := Lib.hid hc
 obtain ⟨z, hz⟩ : ∃ z, z = cpCheckZ c := ⟨_, rfl⟩
 rw [← hz]
 have Hzz := Lib.hid hz
 clear hc hz
 go_enter Tryz.func26, Tryz.ntmps26
 go_wp2_with (refine at_box _ _ rfl ?_)
 refine Stop.to ?_
 refine wpList_box_gen rfl 31 _ rfl c.cells rfl ?_
 intro C Cw Ch Cr Cb
 have b1 := (Below.refl w.heap.size w).trans (Cb.mono Ch)
 have Hc1 := Lib.hid (Hc.out.go b1)
 have Hs := Lib.hid (sitesAll_any c.p Hc1.out.bl Cw Hc1.out.pok)
 clear Cb Ch Hc
 go_wp2_with fail
 go_step3
 go_wp2_with (refine wpList_load_at rfl 25 _ rfl ⟨C, 0, none⟩ rfl c.p.cells.toList _ (cp_head Cr) Tryz.underlying25 rfl (by kernel_rfl) ?_)
 refine Hs.out.mono ?_
 rintro e w1 ⟨A, cap, xs, rfl, hrd, hcap, hnil, hok, hfine, hno, hxl, b2⟩
 replace Cr := Cr.below b2 Cr.lt
 replace b1 := b1.trans (b2.mono b1.size)
 replace Hc1 := Lib.hid (Hc1.out.go b2)
 have hrise : riseD (xs.map DlV.d) := by
  by_cases h : checkP c.p = 0
  · obtain ⟨t, ht⟩ := checkP_ok.1 h
    rw [hfine t ht]; exact allZ_rise _ _
  · rw [hno h]; trivial
 have hin : checkP c.p = 0 → ∀ d, hasD (xs.map DlV.d) d = inP c.p d := fun h d => by
  obtain ⟨t, ht⟩ := checkP_ok.1 h
  rw [Bool.eq_iff_iff, hasD_iff, inP_fine ht, hfine t ht]
 obtain ⟨es, hes⟩ : ∃ es, es = [unlessZ (checkP c.p == 0) 23, suiteZ c.p.params c.testsL c.fuel, unlessZ (decide ((c.mts.length : Int) ≤ 2000)) 24, unlessZ (riseB c.muts) 20, unlessZ (!c.mts.any fun x => !hasD (xs.map DlV.d) x.m.d) 17, unlessZ (!c.mts.any fun x => oddZ c.tests.length x.m) 21, unlessZ (scB c.sc (scoreZ c.muts)) 22] := ⟨_, rfl⟩
 have hfin : cpCheckZ c = orL es := by
  by_cases h : checkP c.p = 0
  · rw [hes]; unfold cpCheckZ
    simp only [hin h]
  · rw [hes]; unfold cpCheckZ
    have hu : unlessZ (checkP c.p == 0) 23 = 23 := by unfold unlessZ; rw [if_neg (by simpa using h)]
    rw [orL_first (k := 0) (e := 23) (fun j hj => by omega) (by rw [hu]; rfl) (by omega), orL_first (k := 0) (e := 23) (fun j hj => by omega) (by rw [hu]; rfl) (by omega)]
 replace Hzz := Lib.hid (Hzz.out.trans hfin)
 have Hes := Lib.hid hes
 have Hrd := Lib.hid hrd
 have Hok := Lib.hid hok
 have Hxl := Lib.hid hxl
 have Hrise := Lib.hid hrise
 clear b2 Hs hrd hcap hnil hok hfine hno hxl hrise hin hes hfin
 go_wp2_with (refine at_alloc _ rfl ?_)
 refine Stop.to ?_
 refine wpList_alloc_gen rfl 94 rfl _ _ (zero_ld _) rfl ?_
 intro L Lw Lh Lr Lb
 go_wp2_with (refine at_store _ _ _ rfl ?_)
 refine Stop.to ?_
 refine wpList_store_part rfl 94 _ _ rfl L 0 rfl (.slice A xs.length cap) rfl [.slice A xs.length cap] rfl 94 _ #[.slice A xs.length cap] Lr (by kernel_rfl) (by show 0 + 1 ≤ 1; omega) (by simp [Value.oneCell']) rfl ?_
 intro Lx Ls Lo
 have Lc := (Lb.mono Lh).trans (Lo.below Lh)
 clear Lb Lr Lo
 replace Cr := Cr.below Lc Cr.lt
 replace Hrd := Lib.hid (Hrd.out.go Lc)
 replace Hok := Lib.hid (fun y hy => (Hok.out y hy).go Lc)
 replace Hc1 := Lib.hid (Hc1.out.go Lc)
 replace b1 := b1.trans (Lc.mono b1.size)
 clear Lc Lh
 go_wp2_with (refine at_alloc _ rfl ?_)
 refine Stop.to ?_
 refine wpList_alloc_gen rfl 98 rfl _ _ (zero_fm _) rfl ?_
 intro F Fw Fh Fr Fb
 go_wp2_with (refine at_store _ _ _ rfl ?_)
 refine Stop.to ?_
 refine wpList_store_part rfl 98 _ _ rfl F 0 rfl (.func (.func 63) #[] #[.pointer (some ⟨L, 0, none⟩)]) rfl [.func (.func 63) #[] #[.pointer (some ⟨L, 0, none⟩)]] rfl 98 _ #[.func (.func 63) #[] #[.pointer (some ⟨L, 0, none⟩)]] Fr (by kernel_rfl) (by show 0 + 1 ≤ 1; omega) (by simp [Value.oneCell']) rfl ?_
 intro Fx Fs Fo
 have Fc := (Fb.mono Fh).trans (Fo.below Fh)
 clear Fb Fr Fo
 replace Cr := Cr.below Fc Cr.lt
 replace Ls := Ls.below Fc Ls.lt
 replace Hrd := Lib.hid (Hrd.out.go Fc)
 replace Hok := Lib.hid (fun y hy => (Hok.out y hy).go Fc)
 replace Hc1 := Lib.hid (Hc1.out.go Fc)
 replace b1 := b1.trans (Fc.mono b1.size)
 clear Fc Fh
 go_wp2_with (refine at_alloc _ rfl ?_)
 refine Stop.to ?_
 refine wpList_alloc_gen rfl 98 rfl _ _ (zero_fm _) rfl ?_
 intro O Ow Oh Or Ob
 go_wp2_with (refine at_store _ _ _ rfl ?_)
 refine Stop.to ?_
 refine wpList_store_part rfl 98 _ _ rfl O 0 rfl (.func (.func 65) #[] #[.pointer (some ⟨C, 0, none⟩)]) rfl [.func (.func 65) #[] #[.pointer (some ⟨C, 0, none⟩)]] rfl 98 _ #[.func (.func 65) #[] #[.pointer (some ⟨C, 0, none⟩)]] Or (by kernel_rfl) (by show 0 + 1 ≤ 1; omega) (by simp [Value.oneCell']) rfl ?_
 intro Ox Os Oo
 have Oc := (Ob.mono Oh).trans (Oo.below Oh)
 clear Ob Or Oo
 replace Cr := Cr.below Oc Cr.lt
 replace Ls := Ls.below Oc Ls.lt
 replace Fs := Fs.below Oc Fs.lt
 replace Hrd := Lib.hid (Hrd.out.go Oc)
 replace Hok := Lib.hid (fun y hy => (Hok.out y hy).go Oc)
 replace Hc1 := Lib.hid (Hc1.out.go Oc)
 replace b1 := b1.trans (Oc.mono b1.size)
 clear Oc Oh
 go_wp2_with (first | fail | (refine at_alloc _ rfl ?_))
 refine Stop.to ?_
 refine wpList_alloc_gen rfl 104 rfl _ _ (zero_f7 _) rfl ?_
 intro M Mw Mh Mr Mb
 go_wp2_with (refine at_store _ _ _ rfl ?_)
 refine Stop.to ?_
 refine wpList_store_gen rfl 104 _ _ rfl M #[.func (.func 67) #[] #[.pointer (some ⟨C, 0, none⟩)], .func (.func 70) #[] #[.pointer (some ⟨C, 0, none⟩)], .func (.func 72) #[] #[.pointer (some ⟨C, 0, none⟩)], .func (.func 73) #[] #[.pointer (some ⟨C, 0, none⟩)], .func (.func 75) #[] #[.pointer (some ⟨C, 0, none⟩), .pointer (some ⟨F, 0, none⟩)], .func (.func 77) #[] #[.pointer (some ⟨C, 0, none⟩), .pointer (some ⟨O, 0, none⟩)], .func (.func 78) #[] #[.pointer (some ⟨C, 0, none⟩)]] rfl rfl 104 _ Mr (by kernel_rfl) rfl (by simp [Value.oneCell']) ?_
 intro Mx Ms Mo
 have Mc := (Mb.mono Mh).trans (Mo.below Mh)
 clear Mb Mr Mo
 replace Cr := Cr.below Mc Cr.lt
 replace Ls := Ls.below Mc Ls.lt
 replace Fs := Fs.below Mc Fs.lt
 replace Os := Os.below Mc Os.lt
 replace Hrd := Lib.hid (Hrd.out.go Mc)
 replace Hok := Lib.hid (fun y hy => (Hok.out y hy).go Mc)
 replace Hc1 := Lib.hid (Hc1.out.go Mc)
 replace b1 := b1.trans (Mc.mono b1.size)
 clear Mc Mh
 obtain ⟨S, hSd⟩ : ∃ S, S = (fun W => (Row W C 31 c.cells ∧ Row W L 94 #[.slice A xs.length cap] ∧ Row W F 98 #[.func (.func 63) #[] #[.pointer (some ⟨L, 0, none⟩)]] ∧ Row W O 98 #[.func (.func 65) #[] #[.pointer (some ⟨C, 0, none⟩)]]) ∧ (Rd W A (dlsC xs) ∧ (∀ y ∈ xs, DlT W y) ∧ CpOk W c) ∧ Below w.heap.size w W) := ⟨_, rfl⟩
 have stS : St S := by rw [hSd]; infer_instance
 have Hs : Hid (∀ W, S W → (Row W C 31 c.cells ∧ Row W L 94 #[.slice A xs.length cap] ∧ Row W F 98 #[.func (.func 63) #[] #[.pointer (some ⟨L, 0, none⟩)]] ∧ Row W O 98 #[.func (.func 65) #[] #[.pointer (some ⟨C, 0, none⟩)]]) ∧ (Rd W A (dlsC xs) ∧ (∀ y ∈ xs, DlT W y) ∧ CpOk W c)) := by show ∀ W, _; rw [hSd]; exact fun W h => ⟨h.1, h.2.1⟩
 have Hlo : Hid (∀ W, S W → Below w.heap.size w W) := by show ∀ W, _; rw [hSd]; exact fun W h => h.2.2
 have hS : S Mx := by rw [hSd]; exact ⟨⟨Cr, Ls, Fs, Os⟩, ⟨Hrd.out, Hok.out, Hc1.out⟩, b1⟩
 clear hSd Cr Ls Fs Os Hrd Hok Hc1 b1
 go_wp2_with fail
 go_step3
 go_wp2_with (refine wpList_load_row rfl 104 _ rfl M rfl 104 #[.func (.func 67) #[] #[.pointer (some ⟨C, 0, none⟩)], .func (.func 70) #[] #[.pointer (some ⟨C, 0, none⟩)], .func (.func 72) #[] #[.pointer (some ⟨C, 0, none⟩)], .func (.func 73) #[] #[.pointer (some ⟨C, 0, none⟩)], .func (.func 75) #[] #[.pointer (some ⟨C, 0, none⟩), .pointer (some ⟨F, 0, none⟩)], .func (.func 77) #[] #[.pointer (some ⟨C, 0, none⟩), .pointer (some ⟨O, 0, none⟩)], .func (.func 78) #[] #[.pointer (some ⟨C, 0, none⟩)]] (0, 0) _ Ms Tryz.underlying104 rfl (by kernel_rfl) ?_)
 clear Ms
 go_loopw [8, 28] (fun e i wr => ∃ k : Nat, e = .int .i64 0 ∧ i = .int .i64 (k : Int) ∧ k ≤ 7 ∧ Hid (∀ j : Nat, j < k → es[j]? = some 0) ∧ S wr) (fun _ i _ => 7 - (intOf i).toNat)
 case atStart => exact ⟨0, rfl, rfl, Nat.zero_le _, Lib.hid (fun j hj => by omega), hS⟩
 case round =>
  clear hS
  obtain ⟨k, rfl, rfl, hk, Hz, hS⟩ := hrel
  have hk8 : k = 0 ∨ k = 1 ∨ k = 2 ∨ k = 3 ∨ k = 4 ∨ k = 5 ∨ k = 6 ∨ k = 7 := by omega
  clear hk
  rcases hk8 with rfl | rfl | rfl | rfl | rfl | rfl | rfl | rfl
  · skip
    have H1 := Lib.hid (ckC3_any C c wr (Hs.out _ hS).1.1 (Hs.out _ hS).2.2.2)
    have hix : ∀ w : World, (Instr.index 104 (.agg #[.func (.func 67) #[] #[.pointer (some ⟨C, 0, none⟩)], .func (.func 70) #[] #[.pointer (some ⟨C, 0, none⟩)], .func (.func 72) #[] #[.pointer (some ⟨C, 0, none⟩)], .func (.func 73) #[] #[.pointer (some ⟨C, 0, none⟩)], .func (.func 75) #[] #[.pointer (some ⟨C, 0, none⟩), .pointer (some ⟨F, 0, none⟩)], .func (.func 77) #[] #[.pointer (some ⟨C, 0, none⟩), .pointer (some ⟨O, 0, none⟩)], .func (.func 78) #[] #[.pointer (some ⟨C, 0, none⟩)]]) (.int .i64 0)).run Tryz.prog w = .ok (.func (.func 67) #[] #[.pointer (some ⟨C, 0, none⟩)]) w := fun _ => by kernel_rfl
    go_wp2_with fail
    refine H1.out.mono ?_
    rintro e w' ⟨rfl, b1⟩
    replace hS := stS.go hS b1
    clear H1 b1
    obtain ⟨v, hv⟩ : ∃ v, v = unlessZ (checkP c.p == 0) 23 := ⟨_, rfl⟩
    have hget : es[0]? = some v := by rw [Hes.out, hv]; rfl
    rw [← hv]
    clear hv
    by_cases he : v = 0
    · have he' : (v != 0) = false := by simp [he]
      have Hz2 : Hid (∀ j : Nat, j < 0 + 1 → es[j]? = some 0) := fun j hj => by
       by_cases hj2 : j < 0
       · exact Hz.out j hj2
       · obtain rfl : j = 0 := by omega
         rw [hget, he]
      subst he
      clear hget Hz
      go_wp2_with fail
      exact ⟨⟨0 + 1, by simp, by simp, by omega, Hz2, hS⟩, by simp [intOf]⟩
    · have he' : (v != 0) = true := by simpa using he
      have Hf : Hid (orL es = v) := orL_first Hz.out hget he
      clear hget he Hz
      go_wp2_with fail
      try rw [Exit.noGoto_ret]
      go_ret
      exact ⟨ret_i' (Hzz.out.trans Hf.out).symm, Hlo.out _ hS⟩
  · skip
    have H1 := Lib.hid (ckC4_any C c wr (Hs.out _ hS).1.1 (Hs.out _ hS).2.2.2)
    have hix : ∀ w : World, (Instr.index 104 (.agg #[.func (.func 67) #[] #[.pointer (some ⟨C, 0, none⟩)], .func (.func 70) #[] #[.pointer (some ⟨C, 0, none⟩)], .func (.func 72) #[] #[.pointer (some ⟨C, 0, none⟩)], .func (.func 73) #[] #[.pointer (some ⟨C, 0, none⟩)], .func (.func 75) #[] #[.pointer (some ⟨C, 0, none⟩), .pointer (some ⟨F, 0, none⟩)], .func (.func 77) #[] #[.pointer (some ⟨C, 0, none⟩), .pointer (some ⟨O, 0, none⟩)], .func (.func 78) #[] #[.pointer (some ⟨C, 0, none⟩)]]) (.int .i64 1)).run Tryz.prog w = .ok (.func (.func 70) #[] #[.pointer (some ⟨C, 0, none⟩)]) w := fun _ => by kernel_rfl
    go_wp2_with fail
    refine H1.out.mono ?_
    rintro e w' ⟨rfl, b1⟩
    replace hS := stS.go hS b1
    clear H1 b1
    obtain ⟨v, hv⟩ : ∃ v, v = suiteZ c.p.params c.testsL c.fuel := ⟨_, rfl⟩
    have hget : es[1]? = some v := by rw [Hes.out, hv]; rfl
    rw [← hv]
    clear hv
    by_cases he : v = 0
    · have he' : (v != 0) = false := by simp [he]
      have Hz2 : Hid (∀ j : Nat, j < 1 + 1 → es[j]? = some 0) := fun j hj => by
       by_cases hj2 : j < 1
       · exact Hz.out j hj2
       · obtain rfl : j = 1 := by omega
         rw [hget, he]
      subst he
      clear hget Hz
      go_wp2_with fail
      exact ⟨⟨1 + 1, by simp, by simp, by omega, Hz2, hS⟩, by simp [intOf]⟩
    · have he' : (v != 0) = true := by simpa using he
      have Hf : Hid (orL es = v) := orL_first Hz.out hget he
      clear hget he Hz
      go_wp2_with fail
      try rw [Exit.noGoto_ret]
      go_ret
      exact ⟨ret_i' (Hzz.out.trans Hf.out).symm, Hlo.out _ hS⟩
  · skip
    have H1 := Lib.hid (ckC5_any C c wr (Hs.out _ hS).1.1)
    have hix : ∀ w : World, (Instr.index 104 (.agg #[.func (.func 67) #[] #[.pointer (some ⟨C, 0, none⟩)], .func (.func 70) #[] #[.pointer (some ⟨C, 0, none⟩)], .func (.func 72) #[] #[.pointer (some ⟨C, 0, none⟩)], .func (.func 73) #[] #[.pointer (some ⟨C, 0, none⟩)], .func (.func 75) #[] #[.pointer (some ⟨C, 0, none⟩), .pointer (some ⟨F, 0, none⟩)], .func (.func 77) #[] #[.pointer (some ⟨C, 0, none⟩), .pointer (some ⟨O, 0, none⟩)], .func (.func 78) #[] #[.pointer (some ⟨C, 0, none⟩)]]) (.int .i64 2)).run Tryz.prog w = .ok (.func (.func 72) #[] #[.pointer (some ⟨C, 0, none⟩)]) w := fun _ => by kernel_rfl
    go_wp2_with fail
    refine H1.out.mono ?_
    rintro e w' ⟨rfl, b1⟩
    replace hS := stS.go hS b1
    clear H1 b1
    obtain ⟨v, hv⟩ : ∃ v, v = unlessZ (decide ((c.mts.length : Int) ≤ 2000)) 24 := ⟨_, rfl⟩
    have hget : es[2]? = some v := by rw [Hes.out, hv]; rfl
    rw [← hv]
    clear hv
    by_cases he : v = 0
    · have he' : (v != 0) = false := by simp [he]
      have Hz2 : Hid (∀ j : Nat, j < 2 + 1 → es[j]? = some 0) := fun j hj => by
       by_cases hj2 : j < 2
       · exact Hz.out j hj2
       · obtain rfl : j = 2 := by omega
         rw [hget, he]
      subst he
      clear hget Hz
      go_wp2_with fail
      exact ⟨⟨2 + 1, by simp, by simp, by omega, Hz2, hS⟩, by simp [intOf]⟩
    · have he' : (v != 0) = true := by simpa using he
      have Hf : Hid (orL es = v) := orL_first Hz.out hget he
      clear hget he Hz
      go_wp2_with fail
      try rw [Exit.noGoto_ret]
      go_ret
      exact ⟨ret_i' (Hzz.out.trans Hf.out).symm, Hlo.out _ hS⟩
  · skip
    have H1 := Lib.hid (ckC6_any C c wr (Hs.out _ hS).1.1 (Hs.out _ hS).2.2.2)
    have hix : ∀ w : World, (Instr.index 104 (.agg #[.func (.func 67) #[] #[.pointer (some ⟨C, 0, none⟩)], .func (.func 70) #[] #[.pointer (some ⟨C, 0, none⟩)], .func (.func 72) #[] #[.pointer (some ⟨C, 0, none⟩)], .func (.func 73) #[] #[.pointer (some ⟨C, 0, none⟩)], .func (.func 75) #[] #[.pointer (some ⟨C, 0, none⟩), .pointer (some ⟨F, 0, none⟩)], .func (.func 77) #[] #[.pointer (some ⟨C, 0, none⟩), .pointer (some ⟨O, 0, none⟩)], .func (.func 78) #[] #[.pointer (some ⟨C, 0, none⟩)]]) (.int .i64 3)).run Tryz.prog w = .ok (.func (.func 73) #[] #[.pointer (some ⟨C, 0, none⟩)]) w := fun _ => by kernel_rfl
    go_wp2_with fail
    refine H1.out.mono ?_
    rintro e w' ⟨rfl, b1⟩
    replace hS := stS.go hS b1
    clear H1 b1
    obtain ⟨v, hv⟩ : ∃ v, v = unlessZ (riseB c.muts) 20 := ⟨_, rfl⟩
    have hget : es[3]? = some v := by rw [Hes.out, hv]; rfl
    rw [← hv]
    clear hv
    by_cases he : v = 0
    · have he' : (v != 0) = false := by simp [he]
      have Hz2 : Hid (∀ j : Nat, j < 3 + 1 → es[j]? = some 0) := fun j hj => by
       by_cases hj2 : j < 3
       · exact Hz.out j hj2
       · obtain rfl : j = 3 := by omega
         rw [hget, he]
      subst he
      clear hget Hz
      go_wp2_with fail
      exact ⟨⟨3 + 1, by simp, by simp, by omega, Hz2, hS⟩, by simp [intOf]⟩
    · have he' : (v != 0) = true := by simpa using he
      have Hf : Hid (orL es = v) := orL_first Hz.out hget he
      clear hget he Hz
      go_wp2_with fail
      try rw [Exit.noGoto_ret]
      go_ret
      exact ⟨ret_i' (Hzz.out.trans Hf.out).symm, Hlo.out _ hS⟩
  · skip
    have H1 := Lib.hid (ckC7_any C F L c A cap xs wr (Hs.out _ hS).1.1 (Hs.out _ hS).2.2.2 (Hs.out _ hS).1.2.2.1 (Hs.out _ hS).1.2.1 (Hs.out _ hS).2.1 (by have := Hxl.out; omega) (Hs.out _ hS).2.2.1 Hrise.out)
    have hix : ∀ w : World, (Instr.index 104 (.agg #[.func (.func 67) #[] #[.pointer (some ⟨C, 0, none⟩)], .func (.func 70) #[] #[.pointer (some ⟨C, 0, none⟩)], .func (.func 72) #[] #[.pointer (some ⟨C, 0, none⟩)], .func (.func 73) #[] #[.pointer (some ⟨C, 0, none⟩)], .func (.func 75) #[] #[.pointer (some ⟨C, 0, none⟩), .pointer (some ⟨F, 0, none⟩)], .func (.func 77) #[] #[.pointer (some ⟨C, 0, none⟩), .pointer (some ⟨O, 0, none⟩)], .func (.func 78) #[] #[.pointer (some ⟨C, 0, none⟩)]]) (.int .i64 4)).run Tryz.prog w = .ok (.func (.func 75) #[] #[.pointer (some ⟨C, 0, none⟩), .pointer (some ⟨F, 0, none⟩)]) w := fun _ => by kernel_rfl
    go_wp2_with fail
    refine H1.out.mono ?_
    rintro e w' ⟨rfl, b1⟩
    replace hS := stS.go hS b1
    clear H1 b1
    obtain ⟨v, hv⟩ : ∃ v, v = unlessZ (!c.mts.any fun x => !hasD (xs.map DlV.d) x.m.d) 17 := ⟨_, rfl⟩
    have hget : es[4]? = some v := by rw [Hes.out, hv]; rfl
    rw [← hv]
    clear hv
    by_cases he : v = 0
    · have he' : (v != 0) = false := by simp [he]
      have Hz2 : Hid (∀ j : Nat, j < 4 + 1 → es[j]? = some 0) := fun j hj => by
       by_cases hj2 : j < 4
       · exact Hz.out j hj2
       · obtain rfl : j = 4 := by omega
         rw [hget, he]
      subst he
      clear hget Hz
      go_wp2_with fail
      exact ⟨⟨4 + 1, by simp, by simp, by omega, Hz2, hS⟩, by simp [intOf]⟩
    · have he' : (v != 0) = true := by simpa using he
      have Hf : Hid (orL es = v) := orL_first Hz.out hget he
      clear hget he Hz
      go_wp2_with fail
      try rw [Exit.noGoto_ret]
      go_ret
      exact ⟨ret_i' (Hzz.out.trans Hf.out).symm, Hlo.out _ hS⟩
  · skip
    have H1 := Lib.hid (ckC8_any C O c wr (Hs.out _ hS).1.1 (Hs.out _ hS).2.2.2 (Hs.out _ hS).1.2.2.2)
    have hix : ∀ w : World, (Instr.index 104 (.agg #[.func (.func 67) #[] #[.pointer (some ⟨C, 0, none⟩)], .func (.func 70) #[] #[.pointer (some ⟨C, 0, none⟩)], .func (.func 72) #[] #[.pointer (some ⟨C, 0, none⟩)], .func (.func 73) #[] #[.pointer (some ⟨C, 0, none⟩)], .func (.func 75) #[] #[.pointer (some ⟨C, 0, none⟩), .pointer (some ⟨F, 0, none⟩)], .func (.func 77) #[] #[.pointer (some ⟨C, 0, none⟩), .pointer (some ⟨O, 0, none⟩)], .func (.func 78) #[] #[.pointer (some ⟨C, 0, none⟩)]]) (.int .i64 5)).run Tryz.prog w = .ok (.func (.func 77) #[] #[.pointer (some ⟨C, 0, none⟩), .pointer (some ⟨O, 0, none⟩)]) w := fun _ => by kernel_rfl
    go_wp2_with fail
    refine H1.out.mono ?_
    rintro e w' ⟨rfl, b1⟩
    replace hS := stS.go hS b1
    clear H1 b1
    obtain ⟨v, hv⟩ : ∃ v, v = unlessZ (!c.mts.any fun x => oddZ c.tests.length x.m) 21 := ⟨_, rfl⟩
    have hget : es[5]? = some v := by rw [Hes.out, hv]; rfl
    rw [← hv]
    clear hv
    by_cases he : v = 0
    · have he' : (v != 0) = false := by simp [he]
      have Hz2 : Hid (∀ j : Nat, j < 5 + 1 → es[j]? = some 0) := fun j hj => by
       by_cases hj2 : j < 5
       · exact Hz.out j hj2
       · obtain rfl : j = 5 := by omega
         rw [hget, he]
      subst he
      clear hget Hz
      go_wp2_with fail
      exact ⟨⟨5 + 1, by simp, by simp, by omega, Hz2, hS⟩, by simp [intOf]⟩
    · have he' : (v != 0) = true := by simpa using he
      have Hf : Hid (orL es = v) := orL_first Hz.out hget he
      clear hget he Hz
      go_wp2_with fail
      try rw [Exit.noGoto_ret]
      go_ret
      exact ⟨ret_i' (Hzz.out.trans Hf.out).symm, Hlo.out _ hS⟩
  · skip
    have H1 := Lib.hid (ckC9_any C c wr (Hs.out _ hS).1.1 (Hs.out _ hS).2.2.2)
    have hix : ∀ w : World, (Instr.index 104 (.agg #[.func (.func 67) #[] #[.pointer (some ⟨C, 0, none⟩)], .func (.func 70) #[] #[.pointer (some ⟨C, 0, none⟩)], .func (.func 72) #[] #[.pointer (some ⟨C, 0, none⟩)], .func (.func 73) #[] #[.pointer (some ⟨C, 0, none⟩)], .func (.func 75) #[] #[.pointer (some ⟨C, 0, none⟩), .pointer (some ⟨F, 0, none⟩)], .func (.func 77) #[] #[.pointer (some ⟨C, 0, none⟩), .pointer (some ⟨O, 0, none⟩)], .func (.func 78) #[] #[.pointer (some ⟨C, 0, none⟩)]]) (.int .i64 6)).run Tryz.prog w = .ok (.func (.func 78) #[] #[.pointer (some ⟨C, 0, none⟩)]) w := fun _ => by kernel_rfl
    go_wp2_with fail
    refine H1.out.mono ?_
    rintro e w' ⟨rfl, b1⟩
    replace hS := stS.go hS b1
    clear H1 b1
    obtain ⟨v, hv⟩ : ∃ v, v = unlessZ (scB c.sc (scoreZ c.muts)) 22 := ⟨_, rfl⟩
    have hget : es[6]? = some v := by rw [Hes.out, hv]; rfl
    rw [← hv]
    clear hv
    by_cases he : v = 0
    · have he' : (v != 0) = false := by simp [he]
      have Hz2 : Hid (∀ j : Nat, j < 6 + 1 → es[j]? = some 0) := fun j hj => by
       by_cases hj2 : j < 6
       · exact Hz.out j hj2
       · obtain rfl : j = 6 := by omega
         rw [hget, he]
      subst he
      clear hget Hz
      go_wp2_with fail
      exact ⟨⟨6 + 1, by simp, by simp, by omega, Hz2, hS⟩, by simp [intOf]⟩
    · have he' : (v != 0) = true := by simpa using he
      have Hf : Hid (orL es = v) := orL_first Hz.out hget he
      clear hget he Hz
      go_wp2_with fail
      try rw [Exit.noGoto_ret]
      go_ret
      exact ⟨ret_i' (Hzz.out.trans Hf.out).symm, Hlo.out _ hS⟩
  · have Hf : Hid (orL es = 0) := orL_zero fun j x hx => by
     have hl : j < 7 := by have := (List.getElem?_eq_some_iff.1 hx).1; rw [Hes.out] at this; exact this
     have := Hz.out j hl
     rw [hx] at this; injection this
    clear Hz
    go_wp2_with fail
    try rw [Exit.noGoto_ret]
    go_ret
    exact ⟨ret_i' (Hzz.out.trans Hf.out).symm, Hlo.out _ hS⟩
end Go.Proofs.YtcgglolckkeeiaaGreat
