/- Lemmas for JnBll. -/
import Derived.Test.YtcgglolckkeeiaaGreatZk16
import Derived.Test.YtcgglolckkeeiaaGreatZk15
import Derived.Test.YtcgglolckkeeiaaGreatZk13
import Derived.Test.YtcgglolckkeeiaaGreatZk21
namespace Go.Proofs.YtcgglolckkeeiaaGreat
set_option linter.unusedVariables false
open Go.RowKit Go.Deep
theorem suiteZ_1 {params fuel : Int} {ts : List (List Int)} (h : ts.length < 1 ∨ 20 < ts.length) : suiteZ params ts fuel = 18 := by unfold suiteZ; rw [if_pos h]
theorem suiteZ_2 {params fuel : Int} {ts : List (List Int)} {l : List Int} (hl : l ∈ ts) (h : ¬ (l.length : Int) = params) : suiteZ params ts fuel = 18 := by
 unfold suiteZ
 split
 · rfl
 · rw [if_neg (fun e => h (e l hl))]
theorem suiteZ_3 {params fuel : Int} {ts : List (List Int)} (h : ¬ (ts.length < 1 ∨ 20 < ts.length)) (h2 : ∀ l ∈ ts, (l.length : Int) = params) : suiteZ params ts fuel = if fuel < 1 ∨ 10000 < fuel then 19 else 0 := by unfold suiteZ; rw [if_neg h, if_pos h2]
set_option maxRecDepth 100000 in
set_option maxHeartbeats 2000000 in
theorem refSuite_any (params fuel : Int) (A : Option Addr) (cap : Nat) (l : List IntsV) (w : World) (hr : Rd w A (tstC l)) (hl : l.length ≤ 1000000) :
 Calls Tryz.prog 84 #[.int .i64 params, .slice A l.length cap, .int .i64 fuel] w fun e w' => e = .returned (.int .i64 (suiteZ params (l.map IntsV.l) fuel)) ∧ w = w' := by
 have Hr := Lib.hid hr
 clear hr
 by_cases h1 : l.length < 1
 · have hz := Lib.hid (suiteZ_1 (params := params) (fuel := fuel) (ts := l.map IntsV.l) (.inl (by simpa using h1)))
   have h1' : (l.length : Int) < 1 := by omega
   clear h1
   go_enter Tryz.func84, Tryz.ntmps84
   go_wp2
   go_ret
   exact ⟨ret_i hz.out, rfl⟩
 by_cases h2 : 20 < l.length
 · have hz := Lib.hid (suiteZ_1 (params := params) (fuel := fuel) (ts := l.map IntsV.l) (.inr (by simpa using h2)))
   have h1' : 1 ≤ (l.length : Int) := by omega
   have h2' : (20 : Int) < (l.length : Int) := by omega
   clear h1 h2
   go_enter Tryz.func84, Tryz.ntmps84
   go_wp2
   go_ret
   exact ⟨ret_i hz.out, rfl⟩
 have h1' : 1 ≤ (l.length : Int) := by omega
 have h2' : (l.length : Int) ≤ 20 := by omega
 have Hn : Hid (¬ ((l.map IntsV.l).length < 1 ∨ 20 < (l.map IntsV.l).length)) := by show ¬ _; rw [List.length_map]; omega
 clear h1 h2
 go_enter Tryz.func84, Tryz.ntmps84
 go_wp2
 go_loop [7] (fun i => ∃ k : Nat, i = .int .i64 (k : Int) ∧ k ≤ l.length ∧ Hid (∀ x ∈ l.take k, (x.l.length : Int) = params)) (fun i => l.length - (intOf i).toNat)
 case atStart => exact ⟨0, rfl, Nat.zero_le _, Lib.hid (fun x hx => by simp at hx)⟩
 case round =>
  obtain ⟨k, rfl, hk, Hall⟩ := hrel
  by_cases hlt : k < l.length
  · obtain ⟨x, hx⟩ : ∃ x, l[k]? = some x := ⟨_, List.getElem?_eq_getElem hlt⟩
    obtain ⟨ad, had, hc0⟩ := rd_map_at Hr.out hx
    have hc : w.cell? (ad.add k) = some (.slice x.addr x.l.length x.cap) := hc0
    have Hx := Lib.hid hx
    have hltI : (k : Int) < (l.length : Int) := by omega
    clear hx hlt hc0
    subst had
    by_cases hs : (x.l.length : Int) = params
    · have hs1 : ((x.l.length : Int) != params) = false := by simpa using hs
      have Hn2 := Lib.hid (take_all_step (p := fun x : IntsV => (x.l.length : Int) = params) Hall.out Hx.out hs)
      clear hs
      go_wp2
      go_round
      case rel => exact ⟨k + 1, by go_num, by omega, Hn2⟩
      case measure => simp [intOf]; omega
    · have hs1 : ((x.l.length : Int) != params) = true := by simpa using hs
      have hz := Lib.hid (suiteZ_2 (params := params) (fuel := fuel) (ts := l.map IntsV.l) (List.mem_map_of_mem (List.mem_of_getElem? Hx.out)) hs)
      clear hs
      go_wp2
      go_ret
      exact ⟨ret_i hz.out, rfl⟩
  · obtain rfl : k = l.length := by omega
    have hz := Lib.hid (suiteZ_3 (params := params) (fuel := fuel) Hn.out (fun t ht => by
     obtain ⟨x, hx, rfl⟩ := List.mem_map.1 ht
     have := Hall.out; rw [List.take_length] at this; exact this x hx))
    clear hlt hk
    by_cases h3 : fuel < 1
    · have hz2 : Hid (suiteZ params (l.map IntsV.l) fuel = 19) := by show _ = _; rw [hz.out, if_pos (.inl h3)]
      go_wp2
      go_ret
      exact ⟨ret_i hz2.out, rfl⟩
    by_cases h4 : 10000 < fuel
    · have hz2 : Hid (suiteZ params (l.map IntsV.l) fuel = 19) := by show _ = _; rw [hz.out, if_pos (.inr h4)]
      have h3' : 1 ≤ fuel := by omega
      clear h3
      go_wp2
      go_ret
      exact ⟨ret_i hz2.out, rfl⟩
    · have hz2 : Hid (suiteZ params (l.map IntsV.l) fuel = 0) := by show _ = _; rw [hz.out, if_neg (by omega)]
      have h3' : 1 ≤ fuel := by omega
      have h4' : fuel ≤ 10000 := by omega
      clear h3 h4
      go_wp2
      go_ret
      exact ⟨ret_i hz2.out, rfl⟩
def unlessZ (b : Bool) (e : Int) : Int := if b then 0 else e
set_option maxRecDepth 100000 in
set_option maxHeartbeats 2000000 in
theorem unlessS_any (b : Bool) (n : Int) (w : World) : Calls Tryz.prog 119 #[.bool b, .int .i64 n] w fun e w' => e = .returned (.int .i64 (unlessZ b n)) ∧ w = w' := by
 cases b
 all_goals
  go_enter Tryz.func119, Tryz.ntmps119
  go_wp2
  go_ret
  exact ⟨rfl, rfl⟩
set_option maxRecDepth 100000 in
set_option maxHeartbeats 2000000 in
theorem unlessC_any (b : Bool) (n : Int) (w : World) : Calls Tryz.prog 68 #[.bool b, .int .i64 n] w fun e w' => e = .returned (.int .i64 (unlessZ b n)) ∧ w = w' := by
 cases b
 all_goals
  go_enter Tryz.func68, Tryz.ntmps68
  go_wp2
  go_ret
  exact ⟨rfl, rfl⟩
set_option maxRecDepth 100000 in
set_option maxHeartbeats 2000000 in
theorem odd_any (P : Nat) (params : Int) (x : IntsV) (w : World) (hr : Row w P 3 #[.int .i64 params]) : Calls Tryz.prog 116 #[x.val, .pointer (some ⟨P, 0, none⟩)] w fun e w' => e = .returned (.bool ((x.l.length : Int) != params)) ∧ Below w.heap.size w w' := by
 have c := hr.cellv (i := 0) (v := .int .i64 params) rfl
 rw [show x.val = .slice x.addr x.l.length x.cap from rfl]
 go_enter Tryz.func116, Tryz.ntmps116
 go_wp2
 go_ret
 exact ⟨rfl, Below.refl _ _⟩
set_option maxRecDepth 100000 in
set_option maxHeartbeats 4000000 in
theorem idxTs_any (P : Nat) (A : Option Addr) (cap : Nat) (l : List IntsV) (p : IntsV → Bool) (w : World) (S : World → Prop) [stS : St S] (hS : S w) (hrd : ∀ W, S W → Rd W A (tstC l)) (hlo : ∀ W, S W → Below w.heap.size w W)
 (hp : ∀ x ∈ l, ∀ W, S W → Calls Tryz.prog 116 #[.slice x.addr x.l.length x.cap, .pointer (some ⟨P, 0, none⟩)] W fun e W' => e = .returned (.bool (p x)) ∧ Below W.heap.size W W') (hl : l.length ≤ 1000000) :
 Calls Tryz.prog 158 #[.slice A l.length cap, .func (.func 116) #[] #[.pointer (some ⟨P, 0, none⟩)]] w fun e w' => e = .returned (.int .i64 (idxZ p l)) ∧ Below w.heap.size w w' := by
 have Hp := Lib.hid hp
 have Hrd := Lib.hid hrd
 have Hlo := Lib.hid hlo
 have hl' : (l.length : Int) ≤ 1000000 := by omega
 clear hp hrd hlo hl
 go_enter Tryz.func158, Tryz.ntmps158
 go_wp2
 go_loopw [8] (fun i wr => ∃ k : Nat, i = .int .i64 (k : Int) ∧ k ≤ l.length ∧ Hid (∀ y ∈ l.take k, p y = false) ∧ S wr) (fun i _ => l.length - (intOf i).toNat)
 case atStart => exact ⟨0, rfl, Nat.zero_le _, Lib.hid (fun x hx => by simp at hx), hS⟩
 case round =>
  clear hS
  obtain ⟨k, rfl, hk, Hall, hS⟩ := hrel
  by_cases hlt : k < l.length
  · obtain ⟨x, hx⟩ : ∃ x, l[k]? = some x := ⟨_, List.getElem?_eq_getElem hlt⟩
    obtain ⟨ad, had, hcx⟩ := rd_map_at (Hrd.out _ hS) hx
    have Hcx : Hid (wr.cell? (ad.add k) = some (.slice x.addr x.l.length x.cap)) := hcx
    have Hx := Lib.hid hx
    have Hcall := Lib.hid (Hp.out x (List.mem_of_getElem? hx) wr hS)
    have hltI : (k : Int) < (l.length : Int) := by omega
    clear hx hlt hcx
    subst had
    (have hcc := Hcx.out); go_wp2_with fail; clear hcc
    refine Hcall.out.mono ?_
    rintro e w' ⟨rfl, b1⟩
    replace hS := stS.go hS b1
    clear b1 Hcall Hcx
    cases hs : p x
    · have Hn := Lib.hid (take_allB_step Hall.out Hx.out hs)
      clear hs Hx
      go_wp2_with fail
      go_roundw
      case rel => exact ⟨k + 1, by go_num, by omega, Hn, hS⟩
      case measure => simp [intOf]; omega
    · have Hn := Lib.hid (idxZ_yes Hall.out Hx.out hs)
      clear hs Hx
      go_wp2_with fail
      go_ret
      exact ⟨by rw [Hn.out]; rfl, Hlo.out _ hS⟩
  · obtain rfl : k = l.length := by omega
    have Hn := Lib.hid (idxZ_no (p := p) (l := l) (by have := Hall.out; rwa [List.take_length] at this))
    clear hlt hk
    go_wp2
    go_ret
    exact ⟨by rw [Hn.out]; rfl, Hlo.out _ hS⟩
set_option maxRecDepth 100000 in
set_option maxHeartbeats 4000000 in
theorem contTs_any (P : Nat) (A : Option Addr) (cap : Nat) (l : List IntsV) (p : IntsV → Bool) (w : World) (S : World → Prop) [stS : St S] (hS : S w) (hrd : ∀ W, S W → Rd W A (tstC l)) (hlo : ∀ W, S W → Below w.heap.size w W)
 (hp : ∀ x ∈ l, ∀ W, S W → Calls Tryz.prog 116 #[.slice x.addr x.l.length x.cap, .pointer (some ⟨P, 0, none⟩)] W fun e W' => e = .returned (.bool (p x)) ∧ Below W.heap.size W W') (hl : l.length ≤ 1000000) :
 Calls Tryz.prog 121 #[.slice A l.length cap, .func (.func 116) #[] #[.pointer (some ⟨P, 0, none⟩)]] w fun e w' => e = .returned (.bool (l.any p)) ∧ Below w.heap.size w w' := by
 have Hc := Lib.hid (idxTs_any P A cap l p w S hS hrd hlo hp hl)
 clear hp hrd hlo hl hS
 go_enter Tryz.func121, Tryz.ntmps121
 go_wp2_with fail
 refine Hc.out.mono ?_
 rintro e w' ⟨rfl, b1⟩
 have Ha := Lib.hid (idxZ_any p l)
 clear Hc
 go_wp2_with fail
 go_ret
 exact ⟨ret_b Ha.out.symm, b1⟩
set_option maxRecDepth 100000 in
set_option maxHeartbeats 4000000 in
theorem suC2_any (T : Nat) (A : Option Addr) (n cap : Nat) (w : World) (hr : Row w T 26 #[.slice A n cap]) :
 Calls Tryz.prog 118 #[.pointer (some ⟨T, 0, none⟩)] w fun e w' => e = .returned (.int .i64 (unlessZ (decide (1 ≤ n ∧ n ≤ 20)) 18)) ∧ Below w.heap.size w w' := by
 have c := hr.cellv (i := 0) (v := .slice A n cap) rfl
 by_cases h1 : 1 ≤ n
 · by_cases h2 : n ≤ 20
   · have h1' : (1 : Int) ≤ (n : Int) := by omega
     have h2' : decide ((n : Int) ≤ 20) = true := by simp; omega
     have Hd : Hid (decide (1 ≤ n ∧ n ≤ 20) = true) := by show _ = _; simp [h1, h2]
     clear h1 h2
     go_enter Tryz.func118, Tryz.ntmps118
     go_wp2_with fail
     refine (unlessS_any _ _ _).mono ?_
     rintro e w' ⟨rfl, rfl⟩
     go_wp2_with fail
     go_ret
     exact ⟨by rw [Hd.out]; rfl, Below.refl _ _⟩
   · have h1' : (1 : Int) ≤ (n : Int) := by omega
     have h2' : decide ((n : Int) ≤ 20) = false := by simp; omega
     have Hd : Hid (decide (1 ≤ n ∧ n ≤ 20) = false) := by show _ = _; simp [h2]
     clear h1 h2
     go_enter Tryz.func118, Tryz.ntmps118
     go_wp2_with fail
     refine (unlessS_any _ _ _).mono ?_
     rintro e w' ⟨rfl, rfl⟩
     go_wp2_with fail
     go_ret
     exact ⟨by rw [Hd.out]; rfl, Below.refl _ _⟩
 · have h1' : (n : Int) < 1 := by omega
   have Hd : Hid (decide (1 ≤ n ∧ n ≤ 20) = false) := by show _ = _; simp [h1]
   clear h1
   go_enter Tryz.func118, Tryz.ntmps118
   go_wp2_with fail
   refine (unlessS_any _ _ _).mono ?_
   rintro e w' ⟨rfl, rfl⟩
   go_wp2_with fail
   go_ret
   exact ⟨by rw [Hd.out]; rfl, Below.refl _ _⟩
set_option maxRecDepth 100000 in
set_option maxHeartbeats 4000000 in
theorem suC4_any (F : Nat) (fuel : Int) (w : World) (hr : Row w F 3 #[.int .i64 fuel]) :
 Calls Tryz.prog 122 #[.pointer (some ⟨F, 0, none⟩)] w fun e w' => e = .returned (.int .i64 (unlessZ (decide (1 ≤ fuel ∧ fuel ≤ 10000)) 19)) ∧ Below w.heap.size w w' := by
 have c := hr.cellv (i := 0) (v := .int .i64 fuel) rfl
 by_cases h1 : 1 ≤ fuel
 · by_cases h2 : fuel ≤ 10000
   · have h2' : decide (fuel ≤ 10000) = true := by simp; omega
     have Hd : Hid (decide (1 ≤ fuel ∧ fuel ≤ 10000) = true) := by show _ = _; simp [h1, h2]
     clear h2
     go_enter Tryz.func122, Tryz.ntmps122
     go_wp2_with fail
     refine (unlessS_any _ _ _).mono ?_
     rintro e w' ⟨rfl, rfl⟩
     go_wp2_with fail
     go_ret
     exact ⟨by rw [Hd.out]; rfl, Below.refl _ _⟩
   · have h2' : decide (fuel ≤ 10000) = false := by simp; omega
     have Hd : Hid (decide (1 ≤ fuel ∧ fuel ≤ 10000) = false) := by show _ = _; simp [h2]
     clear h2
     go_enter Tryz.func122, Tryz.ntmps122
     go_wp2_with fail
     refine (unlessS_any _ _ _).mono ?_
     rintro e w' ⟨rfl, rfl⟩
     go_wp2_with fail
     go_ret
     exact ⟨by rw [Hd.out]; rfl, Below.refl _ _⟩
 · have h1' : fuel < 1 := by omega
   have Hd : Hid (decide (1 ≤ fuel ∧ fuel ≤ 10000) = false) := by show _ = _; simp [h1]
   clear h1
   go_enter Tryz.func122, Tryz.ntmps122
   go_wp2_with fail
   refine (unlessS_any _ _ _).mono ?_
   rintro e w' ⟨rfl, rfl⟩
   go_wp2_with fail
   go_ret
   exact ⟨by rw [Hd.out]; rfl, Below.refl _ _⟩
set_option maxRecDepth 100000 in
set_option maxHeartbeats 4000000 in
theorem suC3_any (T O P : Nat) (A : Option Addr) (cap : Nat) (l : List IntsV) (params : Int) (w : World) (hr : Rd w A (tstC l)) (hl : l.length ≤ 1000000) (rT : Row w T 26 #[.slice A l.length cap]) (rO : Row w O 164 #[.func (.func 116) #[] #[.pointer (some ⟨P, 0, none⟩)]]) (rP : Row w P 3 #[.int .i64 params]) :
 Calls Tryz.prog 120 #[.pointer (some ⟨T, 0, none⟩), .pointer (some ⟨O, 0, none⟩)] w fun e w' => e = .returned (.int .i64 (unlessZ (!l.any fun x => (x.l.length : Int) != params) 18)) ∧ Below w.heap.size w w' := by
 have c1 := rT.cellv (i := 0) (v := .slice A l.length cap) rfl
 have c2 := rO.cellv (i := 0) (v := .func (.func 116) #[] #[.pointer (some ⟨P, 0, none⟩)]) rfl
 have H1 := Lib.hid (contTs_any P A cap l (fun x => (x.l.length : Int) != params) w (fun W => (Rd W A (tstC l) ∧ Row W P 3 #[.int .i64 params]) ∧ Below w.heap.size w W) ⟨⟨hr, rP⟩, Below.refl _ _⟩ (fun W h => h.1.1) (fun W h => h.2) (fun x _ W h => odd_any P params x W h.1.2) hl)
 clear rT rO rP hr hl
 go_enter Tryz.func120, Tryz.ntmps120
 go_wp2_with fail
 refine H1.out.mono ?_
 rintro e w1 ⟨rfl, b1⟩
 clear H1 c1 c2
 generalize hb : (l.any fun x => (x.l.length : Int) != params) = b
 have Hb := Lib.hid hb
 clear hb
 cases b
 all_goals
  go_wp2_with fail
  refine (unlessS_any _ _ _).mono ?_
  rintro e w' ⟨rfl, rfl⟩
  go_wp2_with fail
  go_ret
  exact ⟨by rw [Hb.out]; rfl, b1⟩
set_option maxRecDepth 100000 in
set_option maxHeartbeats 4000000 in
theorem first_any (M T O F : Nat) (e1 e2 e3 : Int) (w : World) (S S2 : World → Prop) [stS : St S] (hS : S w) (hs : ∀ W, S W → Row W M 101 #[.func (.func 118) #[] #[.pointer (some ⟨T, 0, none⟩)], .func (.func 120) #[] #[.pointer (some ⟨T, 0, none⟩), .pointer (some ⟨O, 0, none⟩)], .func (.func 122) #[] #[.pointer (some ⟨F, 0, none⟩)]] ∧ S2 W) (hlo : ∀ W, S W → Below w.heap.size w W)
 (h2 : ∀ W, S2 W → Calls Tryz.prog 118 #[.pointer (some ⟨T, 0, none⟩)] W fun e W' => e = .returned (.int .i64 e1) ∧ Below W.heap.size W W')
 (h3 : ∀ W, S2 W → Calls Tryz.prog 120 #[.pointer (some ⟨T, 0, none⟩), .pointer (some ⟨O, 0, none⟩)] W fun e W' => e = .returned (.int .i64 e2) ∧ Below W.heap.size W W')
 (h4 : ∀ W, S2 W → Calls Tryz.prog 122 #[.pointer (some ⟨F, 0, none⟩)] W fun e W' => e = .returned (.int .i64 e3) ∧ Below W.heap.size W W') :
 Calls Tryz.prog 117 #[.slice (some ⟨M, 0, none⟩) 3 3] w fun e w' => e = .returned (.int .i64 (orL [e1, e2, e3])) ∧ Below w.heap.size w w' := by
 have H2 := Lib.hid h2
 have H3 := Lib.hid h3
 have H4 := Lib.hid h4
 have Hs := Lib.hid hs
 have Hlo := Lib.hid hlo
 clear h2 h3 h4 hs hlo
 go_enter Tryz.func117, Tryz.ntmps117
 go_wp2
 go_loopw [8] (fun i wr => ∃ k : Nat, i = .int .i64 (k : Int) ∧ k ≤ 3 ∧ Hid (∀ j : Nat, j < k → ([e1, e2, e3] : List Int)[j]? = some 0) ∧ S wr) (fun i _ => 3 - (intOf i).toNat)
 case atStart => exact ⟨0, rfl, Nat.zero_le _, Lib.hid (fun j hj => by omega), hS⟩
 case round =>
  clear hS
  obtain ⟨k, rfl, hk, Hz, hS⟩ := hrel
  have hk4 : k = 0 ∨ k = 1 ∨ k = 2 ∨ k = 3 := by omega
  clear hk
  rcases hk4 with rfl | rfl | rfl | rfl
  · skip
    have hrow := (Hs.out _ hS).1
    have cc := hrow.cellv (i := 0) (v := .func (.func 118) #[] #[.pointer (some ⟨T, 0, none⟩)]) rfl
    have H1 := Lib.hid (H2.out wr ((Hs.out _ hS).2))
    clear hrow
    go_wp2_with fail
    refine H1.out.mono ?_
    rintro e w' ⟨rfl, b1⟩
    replace hS := stS.go hS b1
    clear cc H1 b1
    by_cases he : e1 = 0
    · have he' : (e1 != 0) = false := by simp [he]
      have Hz2 : Hid (∀ j : Nat, j < 0 + 1 → ([e1, e2, e3] : List Int)[j]? = some 0) := fun j hj => by
       by_cases hj2 : j < 0
       · exact Hz.out j hj2
       · obtain rfl : j = 0 := by omega
         simp [he]
      clear he
      go_wp2_with fail
      go_roundw
      case rel => exact ⟨0 + 1, by go_num, by omega, Hz2, hS⟩
      case measure => simp [intOf]
    · have he' : (e1 != 0) = true := by simpa using he
      have Hr : Hid (orL [e1, e2, e3] = e1) := by
       show _ = _
       simp [orL, he]
      clear he
      go_wp2_with fail
      go_ret
      exact ⟨by rw [Hr.out]; rfl, Hlo.out _ hS⟩
  · skip
    have hrow := (Hs.out _ hS).1
    have cc := hrow.cellv (i := 1) (v := .func (.func 120) #[] #[.pointer (some ⟨T, 0, none⟩), .pointer (some ⟨O, 0, none⟩)]) rfl
    have H1 := Lib.hid (H3.out wr ((Hs.out _ hS).2))
    clear hrow
    go_wp2_with fail
    refine H1.out.mono ?_
    rintro e w' ⟨rfl, b1⟩
    replace hS := stS.go hS b1
    clear cc H1 b1
    by_cases he : e2 = 0
    · have he' : (e2 != 0) = false := by simp [he]
      have Hz2 : Hid (∀ j : Nat, j < 1 + 1 → ([e1, e2, e3] : List Int)[j]? = some 0) := fun j hj => by
       by_cases hj2 : j < 1
       · exact Hz.out j hj2
       · obtain rfl : j = 1 := by omega
         simp [he]
      clear he
      go_wp2_with fail
      go_roundw
      case rel => exact ⟨1 + 1, by go_num, by omega, Hz2, hS⟩
      case measure => simp [intOf]
    · have he' : (e2 != 0) = true := by simpa using he
      have Hr : Hid (orL [e1, e2, e3] = e2) := by
       show _ = _
       have h0 := Hz.out 0 (by omega); simp at h0; simp [orL, h0, he]
      clear he
      go_wp2_with fail
      go_ret
      exact ⟨by rw [Hr.out]; rfl, Hlo.out _ hS⟩
  · skip
    have hrow := (Hs.out _ hS).1
    have cc := hrow.cellv (i := 2) (v := .func (.func 122) #[] #[.pointer (some ⟨F, 0, none⟩)]) rfl
    have H1 := Lib.hid (H4.out wr ((Hs.out _ hS).2))
    clear hrow
    go_wp2_with fail
    refine H1.out.mono ?_
    rintro e w' ⟨rfl, b1⟩
    replace hS := stS.go hS b1
    clear cc H1 b1
    by_cases he : e3 = 0
    · have he' : (e3 != 0) = false := by simp [he]
      have Hz2 : Hid (∀ j : Nat, j < 2 + 1 → ([e1, e2, e3] : List Int)[j]? = some 0) := fun j hj => by
       by_cases hj2 : j < 2
       · exact Hz.out j hj2
       · obtain rfl : j = 2 := by omega
         simp [he]
      clear he
      go_wp2_with fail
      go_roundw
      case rel => exact ⟨2 + 1, by go_num, by omega, Hz2, hS⟩
      case measure => simp [intOf]
    · have he' : (e3 != 0) = true := by simpa using he
      have Hr : Hid (orL [e1, e2, e3] = e3) := by
       show _ = _
       have h0 := Hz.out 0 (by omega); have h1 := Hz.out 1 (by omega); simp at h0 h1; simp [orL, h0, h1, he]
      clear he
      go_wp2_with fail
      go_ret
      exact ⟨by rw [Hr.out]; rfl, Hlo.out _ hS⟩
  · have Hr : Hid (orL [e1, e2, e3] = 0) := by
     show _ = _
     have h0 := Hz.out 0 (by omega)
     have h1 := Hz.out 1 (by omega)
     have h2 := Hz.out 2 (by omega)
     simp at h0 h1 h2
     simp [orL, h0, h1, h2]
    go_wp2
    go_ret
    exact ⟨by rw [Hr.out]; rfl, Hlo.out _ hS⟩
theorem suiteZ_or (params fuel : Int) (l : List IntsV) : orL [unlessZ (decide (1 ≤ l.length ∧ l.length ≤ 20)) 18, unlessZ (!l.any fun x => (x.l.length : Int) != params) 18, unlessZ (decide (1 ≤ fuel ∧ fuel ≤ 10000)) 19] = suiteZ params (l.map IntsV.l) fuel := by
 unfold unlessZ
 by_cases h1 : (l.map IntsV.l).length < 1 ∨ 20 < (l.map IntsV.l).length
 · rw [suiteZ_1 h1]
   rw [List.length_map] at h1
   have : ¬ (1 ≤ l.length ∧ l.length ≤ 20) := by omega
   simp [orL, this]
 · by_cases h2 : ∀ t ∈ l.map IntsV.l, (t.length : Int) = params
   · rw [suiteZ_3 h1 h2]
     rw [List.length_map] at h1
     have h3 : 1 ≤ l.length ∧ l.length ≤ 20 := by omega
     have h4 : (l.any fun x => (x.l.length : Int) != params) = false := by
      rw [List.any_eq_false]
      intro x hx
      have := h2 x.l (List.mem_map_of_mem hx)
      simp [this]
     by_cases h5 : 1 ≤ fuel ∧ fuel ≤ 10000
     · have e : (if fuel < 1 ∨ 10000 < fuel then (19 : Int) else 0) = 0 := if_neg (by omega)
       rw [e]; simp [orL, h3, h4, h5]
     · have e : (if fuel < 1 ∨ 10000 < fuel then (19 : Int) else 0) = 19 := if_pos (by omega)
       rw [e]; simp [orL, h3, h4, h5]
   · have h2' : ∃ x ∈ l, ¬ (x.l.length : Int) = params := by
      refine Classical.byContradiction fun hn => h2 fun t ht => ?_
      obtain ⟨x, hx, rfl⟩ := List.mem_map.1 ht
      exact Classical.byContradiction fun hne => hn ⟨x, hx, hne⟩
     obtain ⟨x, hx, hne⟩ := h2'
     rw [suiteZ_2 (List.mem_map_of_mem hx) hne]
     rw [List.length_map] at h1
     have h3 : 1 ≤ l.length ∧ l.length ≤ 20 := by omega
     have h4 : (l.any fun x => (x.l.length : Int) != params) = true := by
      rw [List.any_eq_true]
      exact ⟨x, hx, by simpa using hne⟩
     simp [orL, h3, h4]
theorem zero_fun (w : World) : (zeroValue 164).run Tryz.prog w = .ok .nilFunc w := by kernel_rfl
theorem info_fe : (Tryz.prog.info? 101).map (fun i => (i.zero, i.size)) = some (some .nilFunc, 1) := by kernel_rfl
set_option maxRecDepth 100000 in
set_option maxHeartbeats 4000000 in
theorem suite_any (params fuel : Int) (A : Option Addr) (cap : Nat) (l : List IntsV) (w : World) (hr : Rd w A (tstC l)) (hl : l.length ≤ 1000000) :
 Calls Tryz.prog 71 #[.int .i64 params, .slice A l.length cap, .int .i64 fuel] w fun e w' => e = .returned (.int .i64 (suiteZ params (l.map IntsV.l) fuel)) ∧ Below w.heap.size w w' := by
 have Hr := Lib.hid hr
 have Hl := Lib.hid hl
 clear hr hl
 go_enter Tryz.func71, Tryz.ntmps71
 go_wp2_with (refine at_box _ _ rfl ?_)
 refine Stop.to ?_
 refine wpList_box_gen rfl 3 _ rfl #[.int .i64 params] rfl ?_
 intro P Pw Ph Pr Pb
 go_wp2_with (refine at_box _ _ rfl ?_)
 refine Stop.to ?_
 refine wpList_box_gen rfl 26 _ rfl #[.slice A l.length cap] rfl ?_
 intro T Tw Th Tr Tb
 go_wp2_with (refine at_box _ _ rfl ?_)
 refine Stop.to ?_
 refine wpList_box_gen rfl 3 _ rfl #[.int .i64 fuel] rfl ?_
 intro F Fw Fh Fr Fb
 have rP := (Pr.below Tb (Nat.lt_of_lt_of_le Pr.lt Th)).below Fb (by have := Pr.lt; have := Tb.size; omega)
 have rT := Tr.below Fb (Nat.lt_of_lt_of_le Tr.lt Fh)
 have rF := Fr
 have b1 := (Below.refl w.heap.size w).trans (Pb.mono Ph)
 have b2 := b1.trans ((Tb.mono Th).mono b1.size)
 have b3 := b2.trans ((Fb.mono Fh).mono b2.size)
 clear Pr Tr Fr Pb Tb Fb Ph Th Fh b1 b2
 go_wp2_with (refine at_alloc _ rfl ?_)
 refine Stop.to ?_
 refine wpList_alloc_gen rfl 164 rfl _ _ (zero_fun _) rfl ?_
 intro O Ow Oh Or Ob
 go_wp2_with (refine at_store _ _ _ rfl ?_)
 refine Stop.to ?_
 refine wpList_store_part rfl 164 _ _ rfl O 0 rfl (.func (.func 116) #[] #[.pointer (some ⟨P, 0, none⟩)]) rfl [.func (.func 116) #[] #[.pointer (some ⟨P, 0, none⟩)]] rfl 164 _ #[.func (.func 116) #[] #[.pointer (some ⟨P, 0, none⟩)]] Or (by kernel_rfl) (by show 0 + 1 ≤ 1; omega) (by simp [Value.oneCell']) rfl ?_
 intro Ox Os Oo
 have Oc := (Ob.mono Oh).trans (Oo.below Oh)
 replace rP := rP.below Oc rP.lt
 replace rT := rT.below Oc rT.lt
 replace rF := rF.below Oc rF.lt
 have b4 := b3.trans (Oc.mono b3.size)
 clear Or Ob Oh Oo Oc b3
 go_wp2_with (refine at_slice _ _ _ rfl ?_)
 refine Stop.to ?_
 refine wpList_slice_gen rfl 204 3 _ rfl 101 #[.func (.func 118) #[] #[.pointer (some ⟨T, 0, none⟩)], .func (.func 120) #[] #[.pointer (some ⟨T, 0, none⟩), .pointer (some ⟨O, 0, none⟩)], .func (.func 122) #[] #[.pointer (some ⟨F, 0, none⟩)]] (bs_run Tryz.underlying204 info_fe (by decide) (by decide) (by kernel_rfl)) ?_
 intro M Mw Mh Mr Mb
 have Mc := Mb.mono Mh
 replace rP := rP.below Mc rP.lt
 replace rT := rT.below Mc rT.lt
 replace rF := rF.below Mc rF.lt
 replace Os := Os.below Mc Os.lt
 have b5 := b4.trans (Mc.mono b4.size)
 have hfst := first_any M T O F (unlessZ (decide (1 ≤ l.length ∧ l.length ≤ 20)) 18) (unlessZ (!l.any fun x => (x.l.length : Int) != params) 18) (unlessZ (decide (1 ≤ fuel ∧ fuel ≤ 10000)) 19) Mw
  (fun W => (Row W M 101 #[.func (.func 118) #[] #[.pointer (some ⟨T, 0, none⟩)], .func (.func 120) #[] #[.pointer (some ⟨T, 0, none⟩), .pointer (some ⟨O, 0, none⟩)], .func (.func 122) #[] #[.pointer (some ⟨F, 0, none⟩)]] ∧ (Rd W A (tstC l) ∧ Row W T 26 #[.slice A l.length cap] ∧ Row W O 164 #[.func (.func 116) #[] #[.pointer (some ⟨P, 0, none⟩)]] ∧ Row W P 3 #[.int .i64 params] ∧ Row W F 3 #[.int .i64 fuel])) ∧ Below Mw.heap.size Mw W)
  (fun W => Rd W A (tstC l) ∧ Row W T 26 #[.slice A l.length cap] ∧ Row W O 164 #[.func (.func 116) #[] #[.pointer (some ⟨P, 0, none⟩)]] ∧ Row W P 3 #[.int .i64 params] ∧ Row W F 3 #[.int .i64 fuel])
  ⟨⟨Mr, Hr.out.go b5, rT, Os, rP, rF⟩, Below.refl _ _⟩ (fun W h => h.1) (fun W h => h.2)
  (fun W h => suC2_any T A l.length cap W h.2.1) (fun W h => suC3_any T O P A cap l params W h.1 Hl.out h.2.1 h.2.2.1 h.2.2.2.1) (fun W h => suC4_any F fuel W h.2.2.2.2)
 rw [suiteZ_or] at hfst
 have Hf := Lib.hid hfst
 clear hfst rP rT rF Os Mr Mb Mc Mh b4
 go_wp2_with fail
 refine Hf.out.mono ?_
 rintro e w9 ⟨rfl, b9⟩
 have b10 := b5.trans (b9.mono b5.size)
 clear Hf b9 b5
 go_wp2_with fail
 go_ret
 exact ⟨rfl, b10⟩
end Go.Proofs.YtcgglolckkeeiaaGreat
namespace Go.Proofs.YtcgglolckkeeiaaGreat
set_option linter.unusedVariables false
open Go.RowKit Go.Deep
def idxF (d : Dl) : List Mt → Int → Int
 | [], _ => -1
 | m :: r, k => if cmpD m.d d = 0 then k else idxF d r (k + 1)
theorem idxF_told (d : Dl) : ∀ (l : List Mt) (k : Int), (idxF d l k = -1 ∧ toldZ l d = -1) ∨ ∃ (j : Nat) (m : Mt), idxF d l k = k + j ∧ l[j]? = some m ∧ cmpD m.d d = 0 ∧ toldZ l d = m.verdict
 | [], k => Or.inl ⟨rfl, rfl⟩
 | m :: r, k => by
  by_cases h : cmpD m.d d = 0
  · exact Or.inr ⟨0, m, by rw [idxF, if_pos h]; simp, rfl, h, by simp [toldZ, h]⟩
  · have ht : toldZ (m :: r) d = toldZ r d := by simp [toldZ, h]
    rw [idxF, if_neg h, ht]
    rcases idxF_told d r (k + 1) with h1 | ⟨j, x, h1, h2, h3, h4⟩
    · exact Or.inl h1
    · exact Or.inr ⟨j + 1, x, by rw [h1]; omega, by simpa using h2, h3, h4⟩
theorem idxF_on {d : Dl} {l : List Mt} {k : Nat} {m : Mt} (hm : l[k]? = some m) : idxF d (l.drop k) (k : Int) = if cmpD m.d d = 0 then (k : Int) else idxF d (l.drop (k + 1)) ((k + 1 : Nat) : Int) := by
 have hk := (List.getElem?_eq_some_iff.1 hm).1
 have he := (List.getElem?_eq_some_iff.1 hm).2
 rw [List.drop_eq_getElem_cons hk, he, idxF]; rfl
theorem mt_dlat {W : World} {A : Addr} {x : MtV} (h : ∀ j u, x.cells[j]? = some u → W.cell? (A.add j) = some u) : ∀ j v, x.dl.cells.toList[j]? = some v → W.cell? (A.add j) = some v := fun j v hj => h j v (by
 match j, hj with
 | 0, hj | 1, hj | 2, hj => exact hj
 | j + 3, hj => simp [DlV.cells] at hj)
set_option maxRecDepth 100000 in
set_option maxHeartbeats 2000000 in
theorem order_any (x y : MtV) (w : World) (hx : MtOk w x) (hy : MtOk w y) :
 Calls Tryz.prog 46 #[.agg x.cells.toArray, .agg y.cells.toArray] w fun e w' => e = .returned (.int .i64 (cmpD x.m.d y.m.d)) ∧ Below w.heap.size w w' := by
 have Ha := Lib.hid hx
 have Hb := Lib.hid hy
 clear hx hy
 go_enter Tryz.func46, Tryz.ntmps46
 go_wp2_with (refine at_box _ _ rfl ?_)
 refine Stop.to ?_
 refine wpList_box_gen rfl 47 _ rfl x.cells.toArray rfl ?_
 intro G Gw Gh Gr Gb
 go_wp2_with (refine at_box _ _ rfl ?_)
 refine Stop.to ?_
 refine wpList_box_gen rfl 47 _ rfl y.cells.toArray rfl ?_
 intro J Jw Jh Jr Jb
 have rG := Gr.below Jb (Nat.lt_of_lt_of_le Gr.lt Jh)
 have b1 := (Below.refl w.heap.size w).trans (Gb.mono Gh)
 have b2 := b1.trans ((Jb.mono Jh).mono b1.size)
 have Hs := Lib.hid (dlCmp_any x.dl y.dl Jw (Ha.out.go b2).dl (Hb.out.go b2).dl)
 go_wp2_with (first | (refine wpList_load_at rfl 42 _ rfl ⟨G, 0, none⟩ rfl x.dl.cells.toList _ (mt_dl rG) Tryz.underlying42 rfl (by kernel_rfl) ?_) | (refine wpList_load_at rfl 42 _ rfl ⟨J, 0, none⟩ rfl y.dl.cells.toList _ (mt_dl Jr) Tryz.underlying42 rfl (by kernel_rfl) ?_))
 refine Hs.out.mono ?_
 rintro e w1 ⟨rfl, b3⟩
 have b4 := b2.trans (b3.mono b2.size)
 clear Hs Ha Hb rG Gr Jr Gb Jb b1 b2 b3
 go_wp2_with fail
 go_ret
 exact ⟨rfl, b4⟩
set_option maxRecDepth 100000 in
set_option maxHeartbeats 4000000 in
theorem refFind25_any (A : Option Addr) (cap n : Nat) (l : List MtV) (y : DlV) (w : World) (hn : n = l.length) (hr : Rd w A (mtsC l)) (hl : l.length ≤ 1000000) (hok : ∀ x ∈ l, MtOk w x) (hy : DlOk w y) :
 Calls Tryz.prog 51 #[.slice A n cap, .agg y.cells] w fun e w' => e = .returned (.int .i64 (idxF y.d (l.map MtV.m) 0)) ∧ Below w.heap.size w w' := by
 have Hn := Lib.hid hn
 have hnI : (n : Int) ≤ 1000000 := by omega
 clear hl hn
 go_enter Tryz.func51, Tryz.ntmps51
 go_wp2_with (refine at_box _ _ rfl ?_)
 refine Stop.to ?_
 refine wpList_box_gen rfl 42 _ rfl y.cells rfl ?_
 intro G Gw Gh Gr Gb
 have b1 := (Below.refl w.heap.size w).trans (Gb.mono Gh)
 obtain ⟨S, hSd⟩ : ∃ S, S = (fun W => (Row W G 42 y.cells ∧ Rd W A (mtsC l)) ∧ ((∀ x ∈ l, MtOk W x) ∧ (∀ x ∈ [y], DlOk W x)) ∧ Below w.heap.size w W) := ⟨_, rfl⟩
 have stS : St S := by rw [hSd]; infer_instance
 have T0 : Hid (∀ W, S W → Row W G 42 y.cells) := by show ∀ W, _; rw [hSd]; exact fun W h => h.1.1
 have T1 : Hid (∀ W, S W → Rd W A (mtsC l)) := by show ∀ W, _; rw [hSd]; exact fun W h => h.1.2
 have T2 : Hid (∀ W, S W → ∀ x ∈ l, MtOk W x) := by show ∀ W, _; rw [hSd]; exact fun W h => h.2.1.1
 have T3 : Hid (∀ W, S W → DlOk W y) := by show ∀ W, _; rw [hSd]; exact fun W h => h.2.1.2 y (by simp)
 have T4 : Hid (∀ W, S W → Below w.heap.size w W) := by show ∀ W, _; rw [hSd]; exact fun W h => h.2.2
 have hS : S Gw := by rw [hSd]; exact ⟨⟨Gr, hr.go b1⟩, ⟨fun x hx => (hok x hx).go b1, fun x hx => by rw [List.mem_singleton.1 hx]; exact hy.go b1⟩, b1⟩
 clear hSd Gr Gb Gh b1 hr hok hy
 go_wp2_with fail
 go_loopw [5] (fun i wr => ∃ k : Nat, i = .int .i64 (k : Int) ∧ k ≤ n ∧ Hid (idxF y.d (l.map MtV.m) 0 = idxF y.d ((l.map MtV.m).drop k) (k : Int)) ∧ S wr) (fun i _ => n - (intOf i).toNat)
 case atStart => exact ⟨0, by simp, Nat.zero_le _, by simp [Hid], hS⟩
 case round =>
  clear hS
  obtain ⟨k, rfl, hk1, Hk, hS⟩ := hrel
  by_cases hkn : k < n
  rotate_left
  · have hge : ¬ ((k : Int) < (n : Int)) := by omega
    have Hf : Hid (idxF y.d (l.map MtV.m) 0 = -1) := by rw [Hid, Hk.out, List.drop_eq_nil_of_le (by have := Hn.out; simp; omega)]; rfl
    clear hkn Hk
    go_wp2_with fail
    go_ret
    exact ⟨ret_i' Hf.out.symm, T4.out _ hS⟩
  obtain ⟨x, hx⟩ : ∃ x, l[k]? = some x := ⟨_, List.getElem?_eq_getElem (by have := Hn.out; omega)⟩
  obtain ⟨ad, had, _⟩ := mt_at (T1.out _ hS) hx
  subst had
  have Hc : Hid (∀ W, S W → ∀ j u, x.cells[j]? = some u → W.cell? ((ad.add (k * 8)).add j) = some u) := fun W h => by
   obtain ⟨ad', e1, e2⟩ := mt_at (T1.out W h) hx
   injection e1 with e1; subst e1; exact e2
  have hka : (k : Int) < (n : Int) := by omega
  have Hst := Lib.hid (idxF_on (d := y.d) (l := l.map MtV.m) (k := k) (m := x.m) (by simp [hx]))
  have Hmem := Lib.hid (List.mem_of_getElem? hx)
  clear hx hkn
  go_wp2_with fail
  refine region_hold S (by kernel_rfl) (by kernel_rfl) (St.drew hS) ?_
  clear hS
  iterate 4 (refine hold_value rfl ?_ (fun W hW => ?_) ?_; rotate_left; (focus (go_simp; exact rfl)); simp only [Act.put, List.setIfInBounds_toArray, List.set_cons_zero, List.set_cons_succ])
  (refine hold_load_at rfl 42 _ rfl (_) rfl x.dl.cells.toList _ (fun W hW => mt_dlat (Hc.out W hW)) Tryz.underlying42 rfl (by kernel_rfl) ?_; simp only [Act.put, List.setIfInBounds_toArray, List.set_cons_zero, List.set_cons_succ])
  (refine hold_load_row rfl 42 _ rfl (G) rfl 42 _ _ (fun W hW => T0.out W hW) Tryz.underlying42 rfl (by kernel_rfl) ?_; simp only [Act.put, List.setIfInBounds_toArray, List.set_cons_zero, List.set_cons_succ])
  (refine hold_call_new rfl 57 _ (fun W => by (go_simp; try rfl)) (.int .i64 (cmpD x.m.d y.d)) (fun W hW => refDlCmp_any x.dl y W (T2.out W hW x Hmem.out).dl (T3.out W hW)) ?_; simp only [Act.put, List.setIfInBounds_toArray, List.set_cons_zero, List.set_cons_succ])
  (refine hold_value rfl ?_ (fun W hW => ?_) ?_; rotate_left; (focus (go_simp; exact rfl)); simp only [Act.put, List.setIfInBounds_toArray, List.set_cons_zero, List.set_cons_succ])
  refine wpHold_nil fun W hS => ?_
  obtain ⟨c, hc⟩ : ∃ c, c = cmpD x.m.d y.d := ⟨_, rfl⟩
  rw [← hc]
  rw [← hc] at Hst
  clear hc
  by_cases h0 : c = 0
  · have hb : (c == 0) = true := by simp [h0]
    have Hf : Hid (idxF y.d (l.map MtV.m) 0 = (k : Int)) := by rw [Hid, Hk.out, Hst.out, if_pos h0]
    clear Hk Hst h0
    go_wp2_with fail
    go_ret
    exact ⟨ret_i' Hf.out.symm, T4.out _ hS⟩
  · have hb : (c == 0) = false := by simp [h0]
    have Hf : Hid (idxF y.d (l.map MtV.m) 0 = idxF y.d ((l.map MtV.m).drop (k + 1)) ((k + 1 : Nat) : Int)) := by rw [Hid, Hk.out, Hst.out, if_neg h0]
    clear Hk Hst h0
    go_wp2_with fail
    refine ⟨⟨k + 1, by simp, by omega, Hf, hS⟩, ?_⟩
    simp only [intOf]; omega
set_option maxRecDepth 100000 in
set_option maxHeartbeats 4000000 in
theorem refTold_any (A : Option Addr) (cap n : Nat) (l : List MtV) (y : DlV) (w : World) (hn : n = l.length) (hr : Rd w A (mtsC l)) (hl : l.length ≤ 1000000) (hok : ∀ x ∈ l, MtOk w x) (hy : DlOk w y) :
 Calls Tryz.prog 56 #[.slice A n cap, .agg y.cells] w fun e w' => e = .returned (.int .i64 (toldZ (l.map MtV.m) y.d)) ∧ Below w.heap.size w w' := by
 have Hn := Lib.hid hn
 have Hl := Lib.hid hl
 have Hr := Lib.hid hr
 have Hok := Lib.hid hok
 have Hy := Lib.hid hy
 clear hn hl hr hok hy
 go_enter Tryz.func56, Tryz.ntmps56
 go_wp2_with (refine at_box _ _ rfl ?_)
 refine Stop.to ?_
 refine wpList_box_gen rfl 42 _ rfl y.cells rfl ?_
 intro G Gw Gh Gr Gb
 have b1 := (Below.refl w.heap.size w).trans (Gb.mono Gh)
 have Hs := Lib.hid (refFind25_any A cap n l y Gw Hn.out (Hr.out.go b1) Hl.out (fun x hx => (Hok.out x hx).go b1) (Hy.out.go b1))
 go_wp2_with (refine wpList_load_row rfl 42 _ rfl G rfl 42 y.cells (0, 0) _ Gr Tryz.underlying42 rfl (by kernel_rfl) ?_)
 refine Hs.out.mono ?_
 rintro e w1 ⟨rfl, b2⟩
 have b3 := b1.trans (b2.mono b1.size)
 clear Hs Gr Gb Gh b1 b2
 rcases idxF_told y.d (l.map MtV.m) 0 with ⟨h1, h2⟩ | ⟨j, m, h1, h2, h3, h4⟩
 · rw [h1]
   have H2 := Lib.hid h2
   clear h1 h2
   go_wp2_with fail
   go_ret
   exact ⟨ret_i' H2.out.symm, b3⟩
 · rw [h1]
   rw [List.getElem?_map] at h2
   obtain ⟨x, hx, rfl⟩ := Option.map_eq_some_iff.1 h2
   obtain ⟨ad, had, hc⟩ := mt_at (Hr.out.go b3) hx
   subst had
   have c1 : w1.cell? ⟨(ad.add (j * 8)).block, (ad.add (j * 8)).off + 3, none⟩ = some (.int .i64 x.m.verdict) := hc 3 _ rfl
   have hjn : (j : Int) < (n : Int) := by have := (List.getElem?_eq_some_iff.1 hx).1; have := Hn.out; omega
   have hj0 : ¬ ((j : Int) < 0) := by omega
   have H4 := Lib.hid h4
   rw [Int.zero_add]
   clear h1 h2 h3 h4 hx hc
   go_wp2_with fail
   go_ret
   exact ⟨ret_i' H4.out.symm, b3⟩
set_option maxRecDepth 100000 in
set_option maxHeartbeats 4000000 in
theorem told_nil (w : World) : Calls Tryz.prog 55 #[.pointer none] w fun e w' => e = .returned (.int .i64 (-1)) ∧ w' = w := by
 go_enter Tryz.func55, Tryz.ntmps55
 go_wp2_with fail
 go_ret
 exact ⟨rfl, rfl⟩
end Go.Proofs.YtcgglolckkeeiaaGreat
