/- Lemmas for CoAll. -/
import Derived.Test.YtcgglolckkeeiaaGreatZo9
import Derived.Test.YtcgglolckkeeiaaGreatZo13
import Derived.Test.YtcgglolckkeeiaaGreatZo8
import Derived.Test.YtcgglolckkeeiaaGreatZo7
import Derived.Test.YtcgglolckkeeiaaGreatZo16
import Derived.Test.YtcgglolckkeeiaaGreatZo18
set_option linter.unusedVariables false
set_option linter.unusedSimpArgs false
namespace Go.Proofs.YtcgglolckkeeiaaGreat
open Go.RowKit Go.Deep
theorem suiteZ_1 {params fuel : Int} {ts : List (List Int)} (h : ts.length < 1 ∨ 20 < ts.length) : suiteZ params ts fuel = 18 := by unfold suiteZ; rw [if_pos h]
theorem suiteZ_2 {params fuel : Int} {ts : List (List Int)} {l : List Int} (hl : l ∈ ts) (h : ¬ (l.length : Int) = params) : suiteZ params ts fuel = 18 := by
 unfold suiteZ
 split
 · rfl
 · rw [if_neg (fun e => h (e l hl))]
theorem suiteZ_3 {params fuel : Int} {ts : List (List Int)} (h : ¬ (ts.length < 1 ∨ 20 < ts.length)) (h2 : ∀ l ∈ ts, (l.length : Int) = params) : suiteZ params ts fuel = if fuel < 1 ∨ 10000 < fuel then 19 else 0 := by unfold suiteZ; rw [if_neg h, if_pos h2]
def unlessZ (b : Bool) (e : Int) : Int := if b then 0 else e
set_option maxRecDepth 100000 in
set_option maxHeartbeats 2000000 in
theorem unlessS_any (b : Bool) (n : Int) (w : World) : Calls Tryz.prog 119 #[.bool b, .int .i64 n] w fun e w' => e = .returned (.int .i64 (unlessZ b n)) ∧ w = w' := by
 cases b
 all_goals
  go_enter Tryz.func119, Tryz.ntmps119
  go_wp2
  go_ret
  exact ⟨rfl, rfl⟩
set_option maxRecDepth 100000 in
set_option maxHeartbeats 2000000 in
theorem unlessC_any (b : Bool) (n : Int) (w : World) : Calls Tryz.prog 68 #[.bool b, .int .i64 n] w fun e w' => e = .returned (.int .i64 (unlessZ b n)) ∧ w = w' := by
 cases b
 all_goals
  go_enter Tryz.func68, Tryz.ntmps68
  go_wp2
  go_ret
  exact ⟨rfl, rfl⟩
set_option maxRecDepth 100000 in
set_option maxHeartbeats 2000000 in
theorem odd_any (P : Nat) (params : Int) (x : IntsV) (w : World) (hr : Row w P 3 #[.int .i64 params]) : Calls Tryz.prog 116 #[x.val, .pointer (some ⟨P, 0, none⟩)] w fun e w' => e = .returned (.bool ((x.l.length : Int) != params)) ∧ Below w.heap.size w w' := by
 have c := hr.cellv (i := 0) (v := .int .i64 params) rfl
 rw [show x.val = .slice x.addr x.l.length x.cap from rfl]
 go_enter Tryz.func116, Tryz.ntmps116
 go_wp2
 go_ret
 exact ⟨rfl, Below.refl _ _⟩
set_option maxRecDepth 100000 in
set_option maxHeartbeats 4000000 in
theorem idxTs_any (P : Nat) (A : Option Addr) (cap : Nat) (l : List IntsV) (p : IntsV → Bool) (w : World) (S : World → Prop) [stS : St S] (hS : S w) (hrd : ∀ W, S W → Rd W A (tstC l)) (hlo : ∀ W, S W → Below w.heap.size w W)
 (hp : ∀ x ∈ l, ∀ W, S W → Calls Tryz.prog 116 #[.slice x.addr x.l.length x.cap, .pointer (some ⟨P, 0, none⟩)] W fun e W' => e = .returned (.bool (p x)) ∧ Below W.heap.size W W') (hl : l.length ≤ 1000000) :
 Calls Tryz.prog 158 #[.slice A l.length cap, .func (.func 116) #[] #[.pointer (some ⟨P, 0, none⟩)]] w fun e w' => e = .returned (.int .i64 (idxZ p l)) ∧ Below w.heap.size w w' := by
 have Hp := Lib.hid hp
 have Hrd := Lib.hid hrd
 have Hlo := Lib.hid hlo
 have hl' : (l.length : Int) ≤ 1000000 := by omega
 clear hp hrd hlo hl
 go_enter Tryz.func158, Tryz.ntmps158
 go_wp2
 go_loopw [8] (fun i wr => ∃ k : Nat, i = .int .i64 (k : Int) ∧ k ≤ l.length ∧ Hid (∀ y ∈ l.take k, p y = false) ∧ S wr) (fun i _ => l.length - (intOf i).toNat)
 case atStart => exact ⟨0, rfl, Nat.zero_le _, Lib.hid (fun x hx => by simp at hx), hS⟩
 case round =>
  clear hS
  obtain ⟨k, rfl, hk, Hall, hS⟩ := hrel
  by_cases hlt : k < l.length
  · obtain ⟨x, hx⟩ : ∃ x, l[k]? = some x := ⟨_, List.getElem?_eq_getElem hlt⟩
    obtain ⟨ad, had, hcx⟩ := rd_map_at (Hrd.out _ hS) hx
    have Hcx : Hid (wr.cell? (ad.add k) = some (.slice x.addr x.l.length x.cap)) := hcx
    have Hx := Lib.hid hx
    have Hcall := Lib.hid (Hp.out x (List.mem_of_getElem? hx) wr hS)
    have hltI : (k : Int) < (l.length : Int) := by omega
    clear hx hlt hcx
    subst had
    (have hcc := Hcx.out); go_wp2_with fail; clear hcc
    refine Hcall.out.mono ?_
    rintro e w' ⟨rfl, b1⟩
    replace hS := stS.go hS b1
    clear b1 Hcall Hcx
    cases hs : p x
    · have Hn := Lib.hid (take_allB_step Hall.out Hx.out hs)
      clear hs Hx
      go_wp2_with fail
      go_roundw
      case rel => exact ⟨k + 1, by go_num, by omega, Hn, hS⟩
      case measure => simp [intOf]; omega
    · have Hn := Lib.hid (idxZ_yes Hall.out Hx.out hs)
      clear hs Hx
      go_wp2_with fail
      go_ret
      exact ⟨by rw [Hn.out]; rfl, Hlo.out _ hS⟩
  · obtain rfl : k = l.length := by omega
    have Hn := Lib.hid (idxZ_no (p := p) (l := l) (by have := Hall.out; rwa [List.take_length] at this))
    clear hlt hk
    go_wp2
    go_ret
    exact ⟨by rw [Hn.out]; rfl, Hlo.out _ hS⟩
set_option maxRecDepth 100000 in
set_option maxHeartbeats 4000000 in
theorem contTs_any (P : Nat) (A : Option Addr) (cap : Nat) (l : List IntsV) (p : IntsV → Bool) (w : World) (S : World → Prop) [stS : St S] (hS : S w) (hrd : ∀ W, S W → Rd W A (tstC l)) (hlo : ∀ W, S W → Below w.heap.size w W)
 (hp : ∀ x ∈ l, ∀ W, S W → Calls Tryz.prog 116 #[.slice x.addr x.l.length x.cap, .pointer (some ⟨P, 0, none⟩)] W fun e W' => e = .returned (.bool (p x)) ∧ Below W.heap.size W W') (hl : l.length ≤ 1000000) :
 Calls Tryz.prog 121 #[.slice A l.length cap, .func (.func 116) #[] #[.pointer (some ⟨P, 0, none⟩)]] w fun e w' => e = .returned (.bool (l.any p)) ∧ Below w.heap.size w w' := by
 have Hc := Lib.hid (idxTs_any P A cap l p w S hS hrd hlo hp hl)
 clear hp hrd hlo hl hS
 go_enter Tryz.func121, Tryz.ntmps121
 go_wp2_with fail
 refine Hc.out.mono ?_
 rintro e w' ⟨rfl, b1⟩
 have Ha := Lib.hid (idxZ_any p l)
 clear Hc
 go_wp2_with fail
 go_ret
 exact ⟨ret_b Ha.out.symm, b1⟩
set_option maxRecDepth 100000 in
set_option maxHeartbeats 4000000 in
theorem suC2_any (T : Nat) (A : Option Addr) (n cap : Nat) (w : World) (hr : Row w T 26 #[.slice A n cap]) :
 Calls Tryz.prog 118 #[.pointer (some ⟨T, 0, none⟩)] w fun e w' => e = .returned (.int .i64 (unlessZ (decide (1 ≤ n ∧ n ≤ 20)) 18)) ∧ Below w.heap.size w w' := by
 have c := hr.cellv (i := 0) (v := .slice A n cap) rfl
 by_cases h1 : 1 ≤ n
 · by_cases h2 : n ≤ 20
   · have h1' : (1 : Int) ≤ (n : Int) := by omega
     have h2' : decide ((n : Int) ≤ 20) = true := by simp; omega
     have Hd : Hid (decide (1 ≤ n ∧ n ≤ 20) = true) := by show _ = _; simp [h1, h2]
     clear h1 h2
     go_enter Tryz.func118, Tryz.ntmps118
     go_wp2_with fail
     refine (unlessS_any _ _ _).mono ?_
     rintro e w' ⟨rfl, rfl⟩
     go_wp2_with fail
     go_ret
     exact ⟨by rw [Hd.out]; rfl, Below.refl _ _⟩
   · have h1' : (1 : Int) ≤ (n : Int) := by omega
     have h2' : decide ((n : Int) ≤ 20) = false := by simp; omega
     have Hd : Hid (decide (1 ≤ n ∧ n ≤ 20) = false) := by show _ = _; simp [h2]
     clear h1 h2
     go_enter Tryz.func118, Tryz.ntmps118
     go_wp2_with fail
     refine (unlessS_any _ _ _).mono ?_
     rintro e w' ⟨rfl, rfl⟩
     go_wp2_with fail
     go_ret
     exact ⟨by rw [Hd.out]; rfl, Below.refl _ _⟩
 · have h1' : (n : Int) < 1 := by omega
   have Hd : Hid (decide (1 ≤ n ∧ n ≤ 20) = false) := by show _ = _; simp [h1]
   clear h1
   go_enter Tryz.func118, Tryz.ntmps118
   go_wp2_with fail
   refine (unlessS_any _ _ _).mono ?_
   rintro e w' ⟨rfl, rfl⟩
   go_wp2_with fail
   go_ret
   exact ⟨by rw [Hd.out]; rfl, Below.refl _ _⟩
set_option maxRecDepth 100000 in
set_option maxHeartbeats 4000000 in
theorem suC4_any (F : Nat) (fuel : Int) (w : World) (hr : Row w F 3 #[.int .i64 fuel]) :
 Calls Tryz.prog 122 #[.pointer (some ⟨F, 0, none⟩)] w fun e w' => e = .returned (.int .i64 (unlessZ (decide (1 ≤ fuel ∧ fuel ≤ 10000)) 19)) ∧ Below w.heap.size w w' := by
 have c := hr.cellv (i := 0) (v := .int .i64 fuel) rfl
 by_cases h1 : 1 ≤ fuel
 · by_cases h2 : fuel ≤ 10000
   · have h2' : decide (fuel ≤ 10000) = true := by simp; omega
     have Hd : Hid (decide (1 ≤ fuel ∧ fuel ≤ 10000) = true) := by show _ = _; simp [h1, h2]
     clear h2
     go_enter Tryz.func122, Tryz.ntmps122
     go_wp2_with fail
     refine (unlessS_any _ _ _).mono ?_
     rintro e w' ⟨rfl, rfl⟩
     go_wp2_with fail
     go_ret
     exact ⟨by rw [Hd.out]; rfl, Below.refl _ _⟩
   · have h2' : decide (fuel ≤ 10000) = false := by simp; omega
     have Hd : Hid (decide (1 ≤ fuel ∧ fuel ≤ 10000) = false) := by show _ = _; simp [h2]
     clear h2
     go_enter Tryz.func122, Tryz.ntmps122
     go_wp2_with fail
     refine (unlessS_any _ _ _).mono ?_
     rintro e w' ⟨rfl, rfl⟩
     go_wp2_with fail
     go_ret
     exact ⟨by rw [Hd.out]; rfl, Below.refl _ _⟩
 · have h1' : fuel < 1 := by omega
   have Hd : Hid (decide (1 ≤ fuel ∧ fuel ≤ 10000) = false) := by show _ = _; simp [h1]
   clear h1
   go_enter Tryz.func122, Tryz.ntmps122
   go_wp2_with fail
   refine (unlessS_any _ _ _).mono ?_
   rintro e w' ⟨rfl, rfl⟩
   go_wp2_with fail
   go_ret
   exact ⟨by rw [Hd.out]; rfl, Below.refl _ _⟩
set_option maxRecDepth 100000 in
set_option maxHeartbeats 4000000 in
theorem suC3_any (T O P : Nat) (A : Option Addr) (cap : Nat) (l : List IntsV) (params : Int) (w : World) (hr : Rd w A (tstC l)) (hl : l.length ≤ 1000000) (rT : Row w T 26 #[.slice A l.length cap]) (rO : Row w O 164 #[.func (.func 116) #[] #[.pointer (some ⟨P, 0, none⟩)]]) (rP : Row w P 3 #[.int .i64 params]) :
 Calls Tryz.prog 120 #[.pointer (some ⟨T, 0, none⟩), .pointer (some ⟨O, 0, none⟩)] w fun e w' => e = .returned (.int .i64 (unlessZ (!l.any fun x => (x.l.length : Int) != params) 18)) ∧ Below w.heap.size w w' := by
 have c1 := rT.cellv (i := 0) (v := .slice A l.length cap) rfl
 have c2 := rO.cellv (i := 0) (v := .func (.func 116) #[] #[.pointer (some ⟨P, 0, none⟩)]) rfl
 have H1 := Lib.hid (contTs_any P A cap l (fun x => (x.l.length : Int) != params) w (fun W => (Rd W A (tstC l) ∧ Row W P 3 #[.int .i64 params]) ∧ Below w.heap.size w W) ⟨⟨hr, rP⟩, Below.refl _ _⟩ (fun W h => h.1.1) (fun W h => h.2) (fun x _ W h => odd_any P params x W h.1.2) hl)
 clear rT rO rP hr hl
 go_enter Tryz.func120, Tryz.ntmps120
 go_wp2_with fail
 refine H1.out.mono ?_
 rintro e w1 ⟨rfl, b1⟩
 clear H1 c1 c2
 generalize hb : (l.any fun x => (x.l.length : Int) != params) = b
 have Hb := Lib.hid hb
 clear hb
 cases b
 all_goals
  go_wp2_with fail
  refine (unlessS_any _ _ _).mono ?_
  rintro e w' ⟨rfl, rfl⟩
  go_wp2_with fail
  go_ret
  exact ⟨by rw [Hb.out]; rfl, b1⟩
set_option maxRecDepth 100000 in
set_option maxHeartbeats 4000000 in
theorem first_any (M T O F : Nat) (e1 e2 e3 : Int) (w : World) (S S2 : World → Prop) [stS : St S] (hS : S w) (hs : ∀ W, S W → Row W M 101 #[.func (.func 118) #[] #[.pointer (some ⟨T, 0, none⟩)], .func (.func 120) #[] #[.pointer (some ⟨T, 0, none⟩), .pointer (some ⟨O, 0, none⟩)], .func (.func 122) #[] #[.pointer (some ⟨F, 0, none⟩)]] ∧ S2 W) (hlo : ∀ W, S W → Below w.heap.size w W)
 (h2 : ∀ W, S2 W → Calls Tryz.prog 118 #[.pointer (some ⟨T, 0, none⟩)] W fun e W' => e = .returned (.int .i64 e1) ∧ Below W.heap.size W W')
 (h3 : ∀ W, S2 W → Calls Tryz.prog 120 #[.pointer (some ⟨T, 0, none⟩), .pointer (some ⟨O, 0, none⟩)] W fun e W' => e = .returned (.int .i64 e2) ∧ Below W.heap.size W W')
 (h4 : ∀ W, S2 W → Calls Tryz.prog 122 #[.pointer (some ⟨F, 0, none⟩)] W fun e W' => e = .returned (.int .i64 e3) ∧ Below W.heap.size W W') :
 Calls Tryz.prog 117 #[.slice (some ⟨M, 0, none⟩) 3 3] w fun e w' => e = .returned (.int .i64 (orL [e1, e2, e3])) ∧ Below w.heap.size w w' := by
 have H2 := Lib.hid h2
 have H3 := Lib.hid h3
 have H4 := Lib.hid h4
 have Hs := Lib.hid hs
 have Hlo := Lib.hid hlo
 clear h2 h3 h4 hs hlo
 go_enter Tryz.func117, Tryz.ntmps117
 go_wp2
 go_loopw [8] (fun i wr => ∃ k : Nat, i = .int .i64 (k : Int) ∧ k ≤ 3 ∧ Hid (∀ j : Nat, j < k → ([e1, e2, e3] : List Int)[j]? = some 0) ∧ S wr) (fun i _ => 3 - (intOf i).toNat)
 case atStart => exact ⟨0, rfl, Nat.zero_le _, Lib.hid (fun j hj => by omega), hS⟩
 case round =>
  clear hS
  obtain ⟨k, rfl, hk, Hz, hS⟩ := hrel
  have hk4 : k = 0 ∨ k = 1 ∨ k = 2 ∨ k = 3 := by omega
  clear hk
  rcases hk4 with rfl | rfl | rfl | rfl
  · skip
    have hrow := (Hs.out _ hS).1
    have cc := hrow.cellv (i := 0) (v := .func (.func 118) #[] #[.pointer (some ⟨T, 0, none⟩)]) rfl
    have H1 := Lib.hid (H2.out wr ((Hs.out _ hS).2))
    clear hrow
    go_wp2_with fail
    refine H1.out.mono ?_
    rintro e w' ⟨rfl, b1⟩
    replace hS := stS.go hS b1
    clear cc H1 b1
    by_cases he : e1 = 0
    · have he' : (e1 != 0) = false := by simp [he]
      have Hz2 : Hid (∀ j : Nat, j < 0 + 1 → ([e1, e2, e3] : List Int)[j]? = some 0) := fun j hj => by
       by_cases hj2 : j < 0
       · exact Hz.out j hj2
       · obtain rfl : j = 0 := by omega
         simp [he]
      clear he
      go_wp2_with fail
      go_roundw
      case rel => exact ⟨0 + 1, by go_num, by omega, Hz2, hS⟩
      case measure => simp [intOf]
    · have he' : (e1 != 0) = true := by simpa using he
      have Hr : Hid (orL [e1, e2, e3] = e1) := by
       show _ = _
       simp [orL, he]
      clear he
      go_wp2_with fail
      go_ret
      exact ⟨by rw [Hr.out]; rfl, Hlo.out _ hS⟩
  · skip
    have hrow := (Hs.out _ hS).1
    have cc := hrow.cellv (i := 1) (v := .func (.func 120) #[] #[.pointer (some ⟨T, 0, none⟩), .pointer (some ⟨O, 0, none⟩)]) rfl
    have H1 := Lib.hid (H3.out wr ((Hs.out _ hS).2))
    clear hrow
    go_wp2_with fail
    refine H1.out.mono ?_
    rintro e w' ⟨rfl, b1⟩
    replace hS := stS.go hS b1
    clear cc H1 b1
    by_cases he : e2 = 0
    · have he' : (e2 != 0) = false := by simp [he]
      have Hz2 : Hid (∀ j : Nat, j < 1 + 1 → ([e1, e2, e3] : List Int)[j]? = some 0) := fun j hj => by
       by_cases hj2 : j < 1
       · exact Hz.out j hj2
       · obtain rfl : j = 1 := by omega
         simp [he]
      clear he
      go_wp2_with fail
      go_roundw
      case rel => exact ⟨1 + 1, by go_num, by omega, Hz2, hS⟩
      case measure => simp [intOf]
    · have he' : (e2 != 0) = true := by simpa using he
      have Hr : Hid (orL [e1, e2, e3] = e2) := by
       show _ = _
       have h0 := Hz.out 0 (by omega); simp at h0; simp [orL, h0, he]
      clear he
      go_wp2_with fail
      go_ret
      exact ⟨by rw [Hr.out]; rfl, Hlo.out _ hS⟩
  · skip
    have hrow := (Hs.out _ hS).1
    have cc := hrow.cellv (i := 2) (v := .func (.func 122) #[] #[.pointer (some ⟨F, 0, none⟩)]) rfl
    have H1 := Lib.hid (H4.out wr ((Hs.out _ hS).2))
    clear hrow
    go_wp2_with fail
    refine H1.out.mono ?_
    rintro e w' ⟨rfl, b1⟩
    replace hS := stS.go hS b1
    clear cc H1 b1
    by_cases he : e3 = 0
    · have he' : (e3 != 0) = false := by simp [he]
      have Hz2 : Hid (∀ j : Nat, j < 2 + 1 → ([e1, e2, e3] : List Int)[j]? = some 0) := fun j hj => by
       by_cases hj2 : j < 2
       · exact Hz.out j hj2
       · obtain rfl : j = 2 := by omega
         simp [he]
      clear he
      go_wp2_with fail
      go_roundw
      case rel => exact ⟨2 + 1, by go_num, by omega, Hz2, hS⟩
      case measure => simp [intOf]
    · have he' : (e3 != 0) = true := by simpa using he
      have Hr : Hid (orL [e1, e2, e3] = e3) := by
       show _ = _
       have h0 := Hz.out 0 (by omega); have h1 := Hz.out 1 (by omega); simp at h0 h1; simp [orL, h0, h1, he]
      clear he
      go_wp2_with fail
      go_ret
      exact ⟨by rw [Hr.out]; rfl, Hlo.out _ hS⟩
  · have Hr : Hid (orL [e1, e2, e3] = 0) := by
     show _ = _
     have h0 := Hz.out 0 (by omega)
     have h1 := Hz.out 1 (by omega)
     have h2 := Hz.out 2 (by omega)
     simp at h0 h1 h2
     simp [orL, h0, h1, h2]
    go_wp2
    go_ret
    exact ⟨by rw [Hr.out]; rfl, Hlo.out _ hS⟩
theorem suiteZ_or (params fuel : Int) (l : List IntsV) : orL [unlessZ (decide (1 ≤ l.length ∧ l.length ≤ 20)) 18, unlessZ (!l.any fun x => (x.l.length : Int) != params) 18, unlessZ (decide (1 ≤ fuel ∧ fuel ≤ 10000)) 19] = suiteZ params (l.map IntsV.l) fuel := by
 unfold unlessZ
 by_cases h1 : (l.map IntsV.l).length < 1 ∨ 20 < (l.map IntsV.l).length
 · rw [suiteZ_1 h1]
   rw [List.length_map] at h1
   have : ¬ (1 ≤ l.length ∧ l.length ≤ 20) := by omega
   simp [orL, this]
 · by_cases h2 : ∀ t ∈ l.map IntsV.l, (t.length : Int) = params
   · rw [suiteZ_3 h1 h2]
     rw [List.length_map] at h1
     have h3 : 1 ≤ l.length ∧ l.length ≤ 20 := by omega
     have h4 : (l.any fun x => (x.l.length : Int) != params) = false := by
      rw [List.any_eq_false]
      intro x hx
      have := h2 x.l (List.mem_map_of_mem hx)
      simp [this]
     by_cases h5 : 1 ≤ fuel ∧ fuel ≤ 10000
     · have e : (if fuel < 1 ∨ 10000 < fuel then (19 : Int) else 0) = 0 := if_neg (by omega)
       rw [e]; simp [orL, h3, h4, h5]
     · have e : (if fuel < 1 ∨ 10000 < fuel then (19 : Int) else 0) = 19 := if_pos (by omega)
       rw [e]; simp [orL, h3, h4, h5]
   · have h2' : ∃ x ∈ l, ¬ (x.l.length : Int) = params := by
      refine Classical.byContradiction fun hn => h2 fun t ht => ?_
      obtain ⟨x, hx, rfl⟩ := List.mem_map.1 ht
      exact Classical.byContradiction fun hne => hn ⟨x, hx, hne⟩
     obtain ⟨x, hx, hne⟩ := h2'
     rw [suiteZ_2 (List.mem_map_of_mem hx) hne]
     rw [List.length_map] at h1
     have h3 : 1 ≤ l.length ∧ l.length ≤ 20 := by omega
     have h4 : (l.any fun x => (x.l.length : Int) != params) = true := by
      rw [List.any_eq_true]
      exact ⟨x, hx, by simpa using hne⟩
     simp [orL, h3, h4]
theorem zero_fun (w : World) : (zeroValue 164).run Tryz.prog w = .ok .nilFunc w := by kernel_rfl
theorem info_fe : (Tryz.prog.info? 101).map (fun i => (i.zero, i.size)) = some (some .nilFunc, 1) := by kernel_rfl
set_option maxRecDepth 100000 in
set_option maxHeartbeats 4000000 in
theorem suite_any (params fuel : Int) (A : Option Addr) (cap : Nat) (l : List IntsV) (w : World) (hr : Rd w A (tstC l)) (hl : l.length ≤ 1000000) :
 Calls Tryz.prog 71 #[.int .i64 params, .slice A l.length cap, .int .i64 fuel] w fun e w' => e = .returned (.int .i64 (suiteZ params (l.map IntsV.l) fuel)) ∧ Below w.heap.size w w' := by
 have Hr := Lib.hid hr
 have Hl := Lib.hid hl
 clear hr hl
 go_enter Tryz.func71, Tryz.ntmps71
 go_wp2_with (refine at_box _ _ rfl ?_)
 refine Stop.to ?_
 refine wpList_box_gen rfl 3 _ rfl #[.int .i64 params] rfl ?_
 intro P Pw Ph Pr Pb
 go_wp2_with (refine at_box _ _ rfl ?_)
 refine Stop.to ?_
 refine wpList_box_gen rfl 26 _ rfl #[.slice A l.length cap] rfl ?_
 intro T Tw Th Tr Tb
 go_wp2_with (refine at_box _ _ rfl ?_)
 refine Stop.to ?_
 refine wpList_box_gen rfl 3 _ rfl #[.int .i64 fuel] rfl ?_
 intro F Fw Fh Fr Fb
 have rP := (Pr.below Tb (Nat.lt_of_lt_of_le Pr.lt Th)).below Fb (by have := Pr.lt; have := Tb.size; omega)
 have rT := Tr.below Fb (Nat.lt_of_lt_of_le Tr.lt Fh)
 have rF := Fr
 have b1 := (Below.refl w.heap.size w).trans (Pb.mono Ph)
 have b2 := b1.trans ((Tb.mono Th).mono b1.size)
 have b3 := b2.trans ((Fb.mono Fh).mono b2.size)
 clear Pr Tr Fr Pb Tb Fb Ph Th Fh b1 b2
 go_wp2_with (refine at_alloc _ rfl ?_)
 refine Stop.to ?_
 refine wpList_alloc_gen rfl 164 rfl _ _ (zero_fun _) rfl ?_
 intro O Ow Oh Or Ob
 go_wp2_with (refine at_store _ _ _ rfl ?_)
 refine Stop.to ?_
 refine wpList_store_part rfl 164 _ _ rfl O 0 rfl (.func (.func 116) #[] #[.pointer (some ⟨P, 0, none⟩)]) rfl [.func (.func 116) #[] #[.pointer (some ⟨P, 0, none⟩)]] rfl 164 _ #[.func (.func 116) #[] #[.pointer (some ⟨P, 0, none⟩)]] Or (by kernel_rfl) (by show 0 + 1 ≤ 1; omega) (by simp [Value.oneCell']) rfl ?_
 intro Ox Os Oo
 have Oc := (Ob.mono Oh).trans (Oo.below Oh)
 replace rP := rP.below Oc rP.lt
 replace rT := rT.below Oc rT.lt
 replace rF := rF.below Oc rF.lt
 have b4 := b3.trans (Oc.mono b3.size)
 clear Or Ob Oh Oo Oc b3
 go_wp2_with (refine at_slice _ _ _ rfl ?_)
 refine Stop.to ?_
 refine wpList_slice_gen rfl 204 3 _ rfl 101 #[.func (.func 118) #[] #[.pointer (some ⟨T, 0, none⟩)], .func (.func 120) #[] #[.pointer (some ⟨T, 0, none⟩), .pointer (some ⟨O, 0, none⟩)], .func (.func 122) #[] #[.pointer (some ⟨F, 0, none⟩)]] (bs_run Tryz.underlying204 info_fe (by decide) (by decide) (by kernel_rfl)) ?_
 intro M Mw Mh Mr Mb
 have Mc := Mb.mono Mh
 replace rP := rP.below Mc rP.lt
 replace rT := rT.below Mc rT.lt
 replace rF := rF.below Mc rF.lt
 replace Os := Os.below Mc Os.lt
 have b5 := b4.trans (Mc.mono b4.size)
 have hfst := first_any M T O F (unlessZ (decide (1 ≤ l.length ∧ l.length ≤ 20)) 18) (unlessZ (!l.any fun x => (x.l.length : Int) != params) 18) (unlessZ (decide (1 ≤ fuel ∧ fuel ≤ 10000)) 19) Mw
  (fun W => (Row W M 101 #[.func (.func 118) #[] #[.pointer (some ⟨T, 0, none⟩)], .func (.func 120) #[] #[.pointer (some ⟨T, 0, none⟩), .pointer (some ⟨O, 0, none⟩)], .func (.func 122) #[] #[.pointer (some ⟨F, 0, none⟩)]] ∧ (Rd W A (tstC l) ∧ Row W T 26 #[.slice A l.length cap] ∧ Row W O 164 #[.func (.func 116) #[] #[.pointer (some ⟨P, 0, none⟩)]] ∧ Row W P 3 #[.int .i64 params] ∧ Row W F 3 #[.int .i64 fuel])) ∧ Below Mw.heap.size Mw W)
  (fun W => Rd W A (tstC l) ∧ Row W T 26 #[.slice A l.length cap] ∧ Row W O 164 #[.func (.func 116) #[] #[.pointer (some ⟨P, 0, none⟩)]] ∧ Row W P 3 #[.int .i64 params] ∧ Row W F 3 #[.int .i64 fuel])
  ⟨⟨Mr, Hr.out.go b5, rT, Os, rP, rF⟩, Below.refl _ _⟩ (fun W h => h.1) (fun W h => h.2)
  (fun W h => suC2_any T A l.length cap W h.2.1) (fun W h => suC3_any T O P A cap l params W h.1 Hl.out h.2.1 h.2.2.1 h.2.2.2.1) (fun W h => suC4_any F fuel W h.2.2.2.2)
 rw [suiteZ_or] at hfst
 have Hf := Lib.hid hfst
 clear hfst rP rT rF Os Mr Mb Mc Mh b4
 go_wp2_with fail
 refine Hf.out.mono ?_
 rintro e w9 ⟨rfl, b9⟩
 have b10 := b5.trans (b9.mono b5.size)
 clear Hf b9 b5
 go_wp2_with fail
 go_ret
 exact ⟨rfl, b10⟩
end Go.Proofs.YtcgglolckkeeiaaGreat
namespace Go.Proofs.YtcgglolckkeeiaaGreat
open Go.RowKit Go.Deep
theorem mt_dlat {W : World} {A : Addr} {x : MtV} (h : ∀ j u, x.cells[j]? = some u → W.cell? (A.add j) = some u) : ∀ j v, x.dl.cells.toList[j]? = some v → W.cell? (A.add j) = some v := fun j v hj => h j v (by
 match j, hj with
 | 0, hj | 1, hj | 2, hj => exact hj
 | j + 3, hj => simp [DlV.cells] at hj)
end Go.Proofs.YtcgglolckkeeiaaGreat
namespace Go.Proofs.YtcgglolckkeeiaaGreat
open Go.RowKit Go.Deep
theorem countV_step {l : List Mt} {k : Nat} {x : Mt} (hx : l[k]? = some x) (v : Int) : countV (l.take (k + 1)) v = countV (l.take k) v + if x.verdict = v then 1 else 0 := by
 unfold countV
 rw [List.take_add_one, hx, List.filter_append]
 by_cases h : x.verdict = v <;> simp [h]
theorem countV_le (l : List Mt) (k : Nat) (v : Int) : 0 ≤ countV (l.take k) v ∧ countV (l.take k) v ≤ k := by
 unfold countV
 have h1 := List.length_filter_le (fun m : Mt => m.verdict == v) (l.take k)
 have h2 : (l.take k).length ≤ k := List.length_take_le _ _
 omega
theorem putL_0 (a b c d : Value) : putL #[a, b, c] 0 [d] = #[d, b, c] := rfl
theorem putL_1 (a b c d : Value) : putL #[a, b, c] 1 [d] = #[a, d, c] := rfl
theorem putL_2 (a b c d : Value) : putL #[a, b, c] 2 [d] = #[a, b, d] := rfl
set_option maxRecDepth 100000 in
set_option maxHeartbeats 4000000 in
theorem score_any (A : Option Addr) (cap : Nat) (l : List MtV) (w : World) (hr : Rd w A (mtsC l)) (hl : l.length ≤ 1000000) :
 Calls Tryz.prog 24 #[.slice A l.length cap] w fun e w' => e = .returned (.agg (scoreZ (l.map MtV.m)).cells) ∧ Below w.heap.size w w' := by
 have Hr := Lib.hid hr
 have hl' : (l.length : Int) ≤ 1000000 := by omega
 clear hr hl
 have zc := zero_counts
 go_enter Tryz.func24, Tryz.ntmps24
 go_wp2_with (first | fail | (refine at_alloc _ rfl ?_))
 refine Stop.to ?_
 refine wpList_alloc_gen rfl 29 rfl _ _ (zero_score _) rfl ?_
 intro R Rw Rh Rr Rb
 go_wp2_with (first | fail | (refine at_alloc _ rfl ?_))
 refine Stop.to ?_
 refine wpList_alloc_gen rfl 89 rfl _ _ (zc _) rfl ?_
 intro C Cw Ch Cr Cb
 have rR := Rr.below Cb (Nat.lt_of_lt_of_le Rr.lt Ch)
 have hRC : R ≠ C := by have := Rr.lt; omega
 have b1 := (Below.refl w.heap.size w).trans (Rb.mono Rh)
 have b2 := b1.trans ((Cb.mono Ch).mono b1.size)
 have hC : w.heap.size ≤ C := Nat.le_trans b1.size Ch
 have hR : w.heap.size ≤ R := Rh
 clear Rr Rb Cb b1 zc Rh Ch
 have rC := Cr
 clear Cr
 go_wp2_with fail
 go_loopw [8] (fun i wr => ∃ k : Nat, i = .int .i64 (k : Int) ∧ k ≤ l.length ∧ Row wr R 29 #[.int .i64 0, .int .i64 0, .int .i64 0] ∧ Row wr C 89 (scoreZ ((l.map MtV.m).take k)).cells ∧ Below w.heap.size w wr) (fun i _ => l.length - (intOf i).toNat)
 case atStart => exact ⟨0, rfl, Nat.zero_le _, rR, rC, b2⟩
 case round =>
  clear rR rC b2
  obtain ⟨k, rfl, hk, rR, rC, hbl⟩ := hrel
  by_cases hlt : k < l.length
  · obtain ⟨x, hx⟩ : ∃ x, l[k]? = some x := ⟨_, List.getElem?_eq_getElem hlt⟩
    obtain ⟨ad, had, hc0⟩ := mt_at (Hr.out.go hbl) hx
    have hs := fun v => countV_step (l := l.map MtV.m) (k := k) (x := x.m) (by simp [hx]) v
    have Hs0 := Lib.hid (hs 0)
    have Hs1 := Lib.hid (hs 1)
    have Hs2 := Lib.hid (hs 2)
    have hb0 := countV_le (l.map MtV.m) k 0
    have hb1 := countV_le (l.map MtV.m) k 1
    have hb2 := countV_le (l.map MtV.m) k 2
    have hltI : (k : Int) < (l.length : Int) := by omega
    have Hc0 := Lib.hid hc0
    clear hx hlt hc0 hs
    subst had
    go_wp2_with (first | (refine wpList_load_at rfl 47 _ rfl (ad.add (k * 8)) rfl x.cells _ (Hc0.out) Tryz.underlying47 rfl (by kernel_rfl) ?_) | (refine at_alloc _ rfl ?_))
    refine Stop.to ?_
    refine wpList_alloc_gen rfl 47 rfl _ _ (zero_mut _) rfl ?_
    intro G Gw Gh Gr Gb
    go_wp2_with (refine at_store _ _ _ rfl ?_)
    refine Stop.to ?_
    refine wpList_store_gen rfl 47 _ _ rfl G x.cells.toArray rfl rfl 47 _ Gr (by kernel_rfl) rfl (mt_one _) ?_
    intro Gx Gs Go
    have Gc := (Gb.mono Gh).trans (Go.below Gh)
    clear Gb Gr Go
    replace rR := rR.below Gc rR.lt
    replace rC := rC.below Gc rC.lt
    replace hbl := hbl.trans (Gc.mono hbl.size)
    have c30 := Gs.cellv (i := 3) (v := .int .i64 x.m.verdict) rfl
    clear Hc0 Gc Gh
    rw [show (scoreZ ((l.map MtV.m).take k)).cells = #[.int .i64 (countV ((l.map MtV.m).take k) 0), .int .i64 (countV ((l.map MtV.m).take k) 1), .int .i64 (countV ((l.map MtV.m).take k) 2)] from rfl] at rC
    generalize countV ((l.map MtV.m).take k) 0 = n0 at *
    generalize countV ((l.map MtV.m).take k) 1 = n1 at *
    generalize countV ((l.map MtV.m).take k) 2 = n2 at *
    by_cases h0 : x.m.verdict = 0
    · have Hn : Hid ((scoreZ ((l.map MtV.m).take (k + 1))).cells = #[.int .i64 (n0 + 1), .int .i64 n1, .int .i64 n2]) := by
       show _ = _
       unfold scoreZ Sc.cells
       simp only [Hs0.out, Hs1.out, Hs2.out, h0]
       simp
      have hvv : x.m.verdict = 0 := h0
      have c3 : Gx.cell? ⟨G, 3, none⟩ = some (.int .i64 0) := by rw [← hvv]; exact c30
      have c4 : Gx.cell? ⟨C, 0, none⟩ = some (.int .i64 n0) := rC.cellv (i := 0) rfl
      clear h0 hvv c30 Hs0 Hs1 Hs2 Gs
      go_wp2_with (refine at_store _ _ _ rfl ?_)
      refine Stop.to ?_
      refine wpList_store_part rfl 3 _ _ rfl C 0 rfl (.int .i64 (n0 + 1)) (by first | rfl | (simp; done)) [.int .i64 (n0 + 1)] rfl 89 _ _ rC (by kernel_rfl) (by simp) (by simp [Value.oneCell']) (putL_0 _ _ _ _) ?_
      intro W9 r9 o9
      have hb9 := hbl.trans (o9.below hC)
      have rR9 := rR.only o9 hRC
      clear o9 rC rR hbl c3 c4
      go_wp2_with fail
      go_roundw
      case rel => exact ⟨k + 1, by go_num, by omega, rR9, by rw [Hn.out]; exact r9, hb9⟩
      case measure => simp [intOf]; omega
    by_cases h1 : x.m.verdict = 1
    · have Hn : Hid ((scoreZ ((l.map MtV.m).take (k + 1))).cells = #[.int .i64 n0, .int .i64 (n1 + 1), .int .i64 n2]) := by
       show _ = _
       unfold scoreZ Sc.cells
       simp only [Hs0.out, Hs1.out, Hs2.out, h1]
       simp
      have hvv : x.m.verdict = 1 := h1
      have c3 : Gx.cell? ⟨G, 3, none⟩ = some (.int .i64 1) := by rw [← hvv]; exact c30
      have c4 : Gx.cell? ⟨C, 1, none⟩ = some (.int .i64 n1) := rC.cellv (i := 1) rfl
      clear h1 hvv c30 Hs0 Hs1 Hs2 Gs
      go_wp2_with (refine at_store _ _ _ rfl ?_)
      refine Stop.to ?_
      refine wpList_store_part rfl 3 _ _ rfl C 1 rfl (.int .i64 (n1 + 1)) (by first | rfl | (simp; done)) [.int .i64 (n1 + 1)] rfl 89 _ _ rC (by kernel_rfl) (by simp) (by simp [Value.oneCell']) (putL_1 _ _ _ _) ?_
      intro W9 r9 o9
      have hb9 := hbl.trans (o9.below hC)
      have rR9 := rR.only o9 hRC
      clear o9 rC rR hbl c3 c4
      go_wp2_with fail
      go_roundw
      case rel => exact ⟨k + 1, by go_num, by omega, rR9, by rw [Hn.out]; exact r9, hb9⟩
      case measure => simp [intOf]; omega
    by_cases h2 : x.m.verdict = 2
    · have Hn : Hid ((scoreZ ((l.map MtV.m).take (k + 1))).cells = #[.int .i64 n0, .int .i64 n1, .int .i64 (n2 + 1)]) := by
       show _ = _
       unfold scoreZ Sc.cells
       simp only [Hs0.out, Hs1.out, Hs2.out, h2]
       simp
      have hvv : x.m.verdict = 2 := h2
      have c3 : Gx.cell? ⟨G, 3, none⟩ = some (.int .i64 2) := by rw [← hvv]; exact c30
      have c4 : Gx.cell? ⟨C, 2, none⟩ = some (.int .i64 n2) := rC.cellv (i := 2) rfl
      clear h2 hvv c30 Hs0 Hs1 Hs2 Gs
      go_wp2_with (refine at_store _ _ _ rfl ?_)
      refine Stop.to ?_
      refine wpList_store_part rfl 3 _ _ rfl C 2 rfl (.int .i64 (n2 + 1)) (by first | rfl | (simp; done)) [.int .i64 (n2 + 1)] rfl 89 _ _ rC (by kernel_rfl) (by simp) (by simp [Value.oneCell']) (putL_2 _ _ _ _) ?_
      intro W9 r9 o9
      have hb9 := hbl.trans (o9.below hC)
      have rR9 := rR.only o9 hRC
      clear o9 rC rR hbl c3 c4
      go_wp2_with fail
      go_roundw
      case rel => exact ⟨k + 1, by go_num, by omega, rR9, by rw [Hn.out]; exact r9, hb9⟩
      case measure => simp [intOf]; omega
    have Hn : Hid ((scoreZ ((l.map MtV.m).take (k + 1))).cells = #[.int .i64 n0, .int .i64 n1, .int .i64 n2]) := by
     show _ = _
     unfold scoreZ Sc.cells
     simp only [Hs0.out, Hs1.out, Hs2.out, if_neg h0, if_neg h1, if_neg h2]
     simp
    clear Hs0 Hs1 Hs2 Gs
    by_cases h3 : x.m.verdict < 0
    · clear h0 h1 h2
      go_wp2_with fail
      go_roundw
      case rel => exact ⟨k + 1, by go_num, by omega, rR, by rw [Hn.out]; exact rC, hbl⟩
      case measure => simp [intOf]; omega
    · have h4 : 0 ≤ x.m.verdict := by omega
      have h5 : 3 ≤ x.m.verdict := by omega
      clear h0 h1 h2 h3
      go_wp2_with fail
      go_roundw
      case rel => exact ⟨k + 1, by go_num, by omega, rR, by rw [Hn.out]; exact rC, hbl⟩
      case measure => simp [intOf]; omega
  · obtain rfl : k = l.length := by omega
    rw [show (l.map MtV.m).take l.length = l.map MtV.m from List.take_of_length_le (by simp)] at rC
    have Hb := Lib.hid (scBack_any (scoreZ (l.map MtV.m)) wr)
    clear hk hlt
    go_wp2_with (refine wpList_load_row rfl 89 _ rfl C rfl 89 (scoreZ (l.map MtV.m)).cells (0, 0) _ rC Tryz.underlying89 rfl (by kernel_rfl) ?_)
    refine Hb.out.mono ?_
    rintro e w1 ⟨rfl, b3⟩
    replace rR := rR.below b3 rR.lt
    replace hbl := hbl.trans (b3.mono hbl.size)
    clear b3 Hb rC
    go_wp2_with (refine at_store _ _ _ rfl ?_)
    refine Stop.to ?_
    refine wpList_store_gen rfl 29 _ _ rfl R (scoreZ (l.map MtV.m)).cells rfl rfl 29 _ rR (by kernel_rfl) rfl (by simp [Value.oneCell', Sc.cells]) ?_
    intro W9 r9 o9
    go_wp2_with fail
    refine bodyPost_ret (results_cell_row Tryz.results24 _ _ R 29 _ (0, 0) _ rfl r9 Tryz.underlying29 rfl (by kernel_rfl)) rfl ?_
    exact ⟨rfl, hbl.trans (o9.below hR)⟩
end Go.Proofs.YtcgglolckkeeiaaGreat
namespace Go.Proofs.YtcgglolckkeeiaaGreat
open Go.RowKit Go.Deep
set_option maxRecDepth 100000 in
set_option maxHeartbeats 4000000 in
theorem rises_any (A : Option Addr) (cap n : Nat) (l : List MtV) (w : World) (hn : n = l.length) (hr : Rd w A (mtsC l)) (hl : l.length ≤ 1000000) (hok : ∀ x ∈ l, MtOk w x) :
 Calls Tryz.prog 74 #[.slice A n cap] w fun e w' => e = .returned (.bool (riseB (l.map MtV.m))) ∧ Below w.heap.size w w' := by
 have Hn := Lib.hid hn
 have hnI : (n : Int) ≤ 1000000 := by omega
 obtain ⟨S, hSd⟩ : ∃ S, S = (fun W => Rd W A (mtsC l) ∧ (∀ x ∈ l, MtOk W x) ∧ Below w.heap.size w W) := ⟨_, rfl⟩
 have stS : St S := by rw [hSd]; infer_instance
 have T1 : Hid (∀ W, S W → Rd W A (mtsC l)) := by show ∀ W, _; rw [hSd]; exact fun W h => h.1
 have T2 : Hid (∀ W, S W → ∀ x ∈ l, MtOk W x) := by show ∀ W, _; rw [hSd]; exact fun W h => h.2.1
 have T4 : Hid (∀ W, S W → Below w.heap.size w W) := by show ∀ W, _; rw [hSd]; exact fun W h => h.2.2
 have hS : S w := by rw [hSd]; exact ⟨hr, hok, Below.refl _ _⟩
 clear hSd hl hn hr hok
 go_enter Tryz.func74, Tryz.ntmps74
 go_wp2_with fail
 go_loopw [6] (fun i wr => ∃ k : Nat, i = .int .i64 (k : Int) ∧ k ≤ n ∧ Hid (riseM ((l.map MtV.m).take k)) ∧ S wr) (fun i _ => n - (intOf i).toNat)
 case atStart => exact ⟨0, by simp, Nat.zero_le _, Lib.hid (by rw [List.take_zero]; trivial), hS⟩
 case round =>
  clear hS
  obtain ⟨k, rfl, hk1, Hk, hS⟩ := hrel
  by_cases hkn : k < n
  rotate_left
  · have hge : ¬ ((k : Int) < (n : Int)) := by omega
    obtain rfl : k = n := by omega
    have Hf : Hid (riseB (l.map MtV.m) = true) := by
     show _ = _
     rw [riseB_iff]
     have := Hk.out
     rwa [List.take_of_length_le (by rw [List.length_map]; have := Hn.out; omega)] at this
    clear hkn Hk
    go_wp2_with fail
    go_ret
    exact ⟨ret_b Hf.out, T4.out _ hS⟩
  have hka : (k : Int) < (n : Int) := by omega
  obtain ⟨y, hy⟩ : ∃ y, l[k]? = some y := ⟨_, List.getElem?_eq_getElem (by have := Hn.out; omega)⟩
  have Hy := Lib.hid hy
  clear hy hkn
  rcases Nat.eq_zero_or_pos k with h0 | h0
  · subst h0
    have Hf : Hid (riseM ((l.map MtV.m).take (0 + 1))) := riseM_one _
    have e0 : ¬ ((0 : Int) < 0) := by omega
    clear Hk
    go_wp2_with fail
    refine region_hold S (by kernel_rfl) (by kernel_rfl) (St.drew hS) ?_
    clear hS
    iterate 3 (refine hold_value rfl ?_ (fun W hW => ?_) ?_; rotate_left; (focus (go_simp; exact rfl)); simp only [Act.put, List.setIfInBounds_toArray, List.set_cons_zero, List.set_cons_succ])
    iterate 13 (refine hold_skip rfl ?_; simp only [Act.put, List.setIfInBounds_toArray, List.set_cons_zero, List.set_cons_succ])
    (refine hold_value rfl ?_ (fun W hW => ?_) ?_; rotate_left; (focus (go_simp; exact rfl)); simp only [Act.put, List.setIfInBounds_toArray, List.set_cons_zero, List.set_cons_succ])
    refine wpHold_nil fun W hS => ?_
    go_wp2_with fail
    refine ⟨⟨0 + 1, by simp, by omega, Hf, hS⟩, ?_⟩
    simp only [intOf]; omega
  · obtain ⟨j, rfl⟩ : ∃ j, k = j + 1 := ⟨k - 1, by omega⟩
    obtain ⟨x, hx⟩ : ∃ x, l[j]? = some x := ⟨_, List.getElem?_eq_getElem (by have := Hn.out; omega)⟩
    have Hx := Lib.hid hx
    obtain ⟨ad, had, _⟩ := mt_at (T1.out _ hS) hx
    subst had
    have Hc : Hid (∀ W, S W → ∀ i u, x.cells[i]? = some u → W.cell? ((ad.add (j * 8)).add i) = some u) := fun W h => by
     obtain ⟨ad', e1, e2⟩ := mt_at (T1.out W h) Hx.out
     injection e1 with e1; subst e1; exact e2
    have Hd : Hid (∀ W, S W → ∀ i u, y.cells[i]? = some u → W.cell? ((ad.add ((j + 1) * 8)).add i) = some u) := fun W h => by
     obtain ⟨ad', e1, e2⟩ := mt_at (T1.out W h) Hy.out
     injection e1 with e1; subst e1; exact e2
    have e0 : (0 : Int) < ((j + 1 : Nat) : Int) := by omega
    have ej : IntKind.i64.wrap (((j + 1 : Nat) : Int) - 1) = (j : Int) := by rw [show ((j + 1 : Nat) : Int) - 1 = (j : Int) by omega]; exact IntWalk.i64_in _ (by omega)
    have hjn : (j : Int) < (n : Int) := by omega
    have hj0 : (0 : Int) ≤ (j : Int) := by omega
    clear hx h0
    go_wp2_with fail
    refine region_hold S (by kernel_rfl) (by kernel_rfl) (St.drew hS) ?_
    clear hS
    iterate 5 (refine hold_value rfl ?_ (fun W hW => ?_) ?_; rotate_left; (focus (go_simp; exact rfl)); simp only [Act.put, List.setIfInBounds_toArray, List.set_cons_zero, List.set_cons_succ])
    (refine hold_value rfl (.int .i64 (j : Int)) (fun W hW => (by first | (go_simp; done) | (go_simp; exact IntWalk.i64_in _ (by omega)))) ?_; simp only [Act.put, List.setIfInBounds_toArray, List.set_cons_zero, List.set_cons_succ])
    iterate 2 (refine hold_value rfl ?_ (fun W hW => ?_) ?_; rotate_left; (focus (go_simp; exact rfl)); simp only [Act.put, List.setIfInBounds_toArray, List.set_cons_zero, List.set_cons_succ])
    (refine hold_load_at rfl 42 _ rfl (_) rfl x.dl.cells.toList _ (fun W hW => mt_dlat (Hc.out W hW)) Tryz.underlying42 rfl (by kernel_rfl) ?_; simp only [Act.put, List.setIfInBounds_toArray, List.set_cons_zero, List.set_cons_succ])
    iterate 4 (refine hold_value rfl ?_ (fun W hW => ?_) ?_; rotate_left; (focus (go_simp; exact rfl)); simp only [Act.put, List.setIfInBounds_toArray, List.set_cons_zero, List.set_cons_succ])
    (refine hold_load_at rfl 42 _ rfl (_) rfl y.dl.cells.toList _ (fun W hW => mt_dlat (Hd.out W hW)) Tryz.underlying42 rfl (by kernel_rfl) ?_; simp only [Act.put, List.setIfInBounds_toArray, List.set_cons_zero, List.set_cons_succ])
    (refine hold_call_new rfl 25 _ (fun W => by (go_simp; try rfl)) (.int .i64 (cmpD x.m.d y.m.d)) (fun W hW => dlCmp_any x.dl y.dl W (T2.out W hW x (List.mem_of_getElem? Hx.out)).dl (T2.out W hW y (List.mem_of_getElem? Hy.out)).dl) ?_; simp only [Act.put, List.setIfInBounds_toArray, List.set_cons_zero, List.set_cons_succ])
    iterate 2 (refine hold_value rfl ?_ (fun W hW => ?_) ?_; rotate_left; (focus (go_simp; exact rfl)); simp only [Act.put, List.setIfInBounds_toArray, List.set_cons_zero, List.set_cons_succ])
    refine wpHold_nil fun W hS => ?_
    obtain ⟨c, hc⟩ : ∃ c, c = cmpD x.m.d y.m.d := ⟨_, rfl⟩
    rw [← hc]
    have hx' : (l.map MtV.m)[j]? = some x.m := by rw [List.getElem?_map, Hx.out]; rfl
    have hy' : (l.map MtV.m)[j + 1]? = some y.m := by rw [List.getElem?_map, Hy.out]; rfl
    by_cases h0 : 0 ≤ c
    · have Hf : Hid (riseB (l.map MtV.m) = false) := by
       show _ = _
       have h1 : ¬ riseB (l.map MtV.m) = true := fun h => by
        have := riseM_get (riseB_iff.1 h) hx' hy'
        omega
       simpa using h1
      clear Hk hc hx' hy' Hc Hd
      go_wp2_with fail
      go_ret
      exact ⟨ret_b Hf.out, T4.out _ hS⟩
    · have Hf : Hid (riseM ((l.map MtV.m).take (j + 1 + 1))) := riseM_take_succ hx' hy' Hk.out (by omega)
      clear Hk hc hx' hy' Hc Hd
      go_wp2_with fail
      refine ⟨⟨j + 1 + 1, by simp, by omega, Hf, hS⟩, ?_⟩
      simp only [intOf]; omega
end Go.Proofs.YtcgglolckkeeiaaGreat
