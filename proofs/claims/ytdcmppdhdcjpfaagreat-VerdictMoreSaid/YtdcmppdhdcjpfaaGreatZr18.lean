/- Lemmas for VerdictMoreP. -/
import Derived.Test.YtdcmppdhdcjpfaaGreatZr1
import Derived.Test.YtdcmppdhdcjpfaaGreatZr11
import Derived.Test.YtdcmppdhdcjpfaaGreatZr7
import Derived.Test.YtdcmppdhdcjpfaaGreatZr12
import Derived.Test.YtdcmppdhdcjpfaaGreatZr3
import Derived.Test.YtdcmppdhdcjpfaaGreatZr15
import Derived.Test.YtdcmppdhdcjpfaaGreatZr17
import Derived.Test.YtdcmppdhdcjpfaaGreatZr8
import Derived.Test.YtdcmppdhdcjpfaaGreatZr10
import Derived.Test.YtdcmppdhdcjpfaaGreatZr13
import Derived.OrdersHeld
set_option linter.unusedVariables false
set_option linter.unusedSimpArgs false
set_option maxRecDepth 100000
set_option maxHeartbeats 16000000
namespace Go.Proofs.YtdcmppdhdcjpfaaGreat
open Go.RowKit Go.Deep
theorem AgD {params fuel : Int} {ts : List (List Int)} (h : ts.length < 1 ∨ 20 < ts.length) : Jd params ts fuel = 18 := by unfold Jd; rw [if_pos h]
theorem AgE {params fuel : Int} {ts : List (List Int)} {l : List Int} (hl : l ∈ ts) (h : ¬ (l.length : Int) = params) : Jd params ts fuel = 18 := by
 unfold Jd
 split
 · rfl
 · rw [if_neg (fun e => h (e l hl))]
theorem AgF {params fuel : Int} {ts : List (List Int)} (h : ¬ (ts.length < 1 ∨ 20 < ts.length)) (h2 : ∀ l ∈ ts, (l.length : Int) = params) : Jd params ts fuel = if fuel < 1 ∨ 10000 < fuel then 19 else 0 := by unfold Jd; rw [if_neg h, if_pos h2]
def JR (b : Bool) (e : Int) : Int := if b then 0 else e
theorem Je (b : Bool) (n : Int) (w : World) : Calls Tryz.prog 132 #[.bool b, .int .i64 n] w fun e w' => e = .returned (.int .i64 (JR b n)) ∧ w = w' := by
 cases b
 all_goals
  go_enter Tryz.func132, Tryz.ntmps132
  go_wp2
  go_ret
  exact ⟨rfl, rfl⟩
theorem AhD (P : Nat) (params : Int) (x : IntsV) (w : World) (hr : Row w P 3 #[.int .i64 params]) : Calls Tryz.prog 129 #[x.val, .pointer (some ⟨P, 0, none⟩)] w fun e w' => e = .returned (.bool ((x.l.length : Int) != params)) ∧ Below w.heap.size w w' := by
 have c := hr.cellv (i := 0) (v := .int .i64 params) rfl
 rw [show x.val = .slice x.addr x.l.length x.cap from rfl]
 go_enter Tryz.func129, Tryz.ntmps129
 go_wp2
 go_ret
 exact ⟨rfl, Below.refl _ _⟩
theorem AeZ (P : Nat) (A : Option Addr) (cap : Nat) (l : List IntsV) (p : IntsV → Bool) (w : World) (S : World → Prop) [stS : St S] (hS : S w) (hrd : ∀ W, S W → Rd W A (Z6 l)) (hlo : ∀ W, S W → Below w.heap.size w W)
 (hp : ∀ x ∈ l, ∀ W, S W → Calls Tryz.prog 129 #[.slice x.addr x.l.length x.cap, .pointer (some ⟨P, 0, none⟩)] W fun e W' => e = .returned (.bool (p x)) ∧ Below W.heap.size W W') (hl : l.length ≤ 1000000) :
 Calls Tryz.prog 209 #[.slice A l.length cap, .func (.func 129) #[] #[.pointer (some ⟨P, 0, none⟩)]] w fun e w' => e = .returned (.int .i64 (AbW p l)) ∧ Below w.heap.size w w' := by
 have Hp := Lh hp
 have Hrd := Lh hrd
 have Hlo := Lh hlo
 have hl' : (l.length : Int) ≤ 1000000 := by omega
 clear hp hrd hlo hl
 go_enter Tryz.func209, Tryz.ntmps209
 go_wp2
 go_loopw [8] (fun i wr => ∃ k : Nat, i = .int .i64 (k : Int) ∧ k ≤ l.length ∧ Hid (∀ y ∈ l.take k, p y = false) ∧ S wr) (fun i _ => l.length - (intOf i).toNat)
 case atStart => exact ⟨0, rfl, Nat.zero_le _, Lh (fun x hx => by simp at hx), hS⟩
 case round =>
  clear hS
  obtain ⟨k, rfl, hk, Hall, hS⟩ := hrel
  by_cases hlt : k < l.length
  · obtain ⟨x, hx⟩ : ∃ x, l[k]? = some x := ⟨_, List.getElem?_eq_getElem hlt⟩
    obtain ⟨ad, had, hcx⟩ := Uk (Hrd.out _ hS) hx
    have Hcx : Hid (wr.cell? (ad.add k) = some (.slice x.addr x.l.length x.cap)) := hcx
    have Hx := Lh hx
    have Hcall := Lh (Hp.out x (List.mem_of_getElem? hx) wr hS)
    have hltI : (k : Int) < (l.length : Int) := by omega
    clear hx hlt hcx
    subst had
    (have hcc := Hcx.out); go_wp2_with fail; clear hcc
    refine Hcall.out.mono ?_
    rintro e w' ⟨rfl, b1⟩
    replace hS := stS.go hS b1
    clear b1 Hcall Hcx
    cases hs : p x
    · have Hn := Lh (XX Hall.out Hx.out hs)
      clear hs Hx
      go_wp2_with fail
      go_roundw
      case rel => exact ⟨k + 1, by go_num, by omega, Hn, hS⟩
      case measure => simp [intOf]; omega
    · have Hn := Lh (AbY Hall.out Hx.out hs)
      clear hs Hx
      go_wp2_with fail
      go_ret
      exact ⟨by rw [Hn.out]; rfl, Hlo.out _ hS⟩
  · obtain rfl : k = l.length := by omega
    have Hn := Lh (Aem (p := p) (l := l) (by have := Hall.out; rwa [List.take_length] at this))
    clear hlt hk
    go_wp2
    go_ret
    exact ⟨by rw [Hn.out]; rfl, Hlo.out _ hS⟩
theorem Adi (P : Nat) (A : Option Addr) (cap : Nat) (l : List IntsV) (p : IntsV → Bool) (w : World) (S : World → Prop) [stS : St S] (hS : S w) (hrd : ∀ W, S W → Rd W A (Z6 l)) (hlo : ∀ W, S W → Below w.heap.size w W)
 (hp : ∀ x ∈ l, ∀ W, S W → Calls Tryz.prog 129 #[.slice x.addr x.l.length x.cap, .pointer (some ⟨P, 0, none⟩)] W fun e W' => e = .returned (.bool (p x)) ∧ Below W.heap.size W W') (hl : l.length ≤ 1000000) :
 Calls Tryz.prog 134 #[.slice A l.length cap, .func (.func 129) #[] #[.pointer (some ⟨P, 0, none⟩)]] w fun e w' => e = .returned (.bool (l.any p)) ∧ Below w.heap.size w w' := by
 have Hc := Lh (AeZ P A cap l p w S hS hrd hlo hp hl)
 clear hp hrd hlo hl hS
 go_enter Tryz.func134, Tryz.ntmps134
 go_wp2_with fail
 refine Hc.out.mono ?_
 rintro e w' ⟨rfl, b1⟩
 have Ha := Lh (AbX p l)
 clear Hc
 go_wp2_with fail
 go_ret
 exact ⟨Z9 Ha.out.symm, b1⟩
theorem AgA (T : Nat) (A : Option Addr) (n cap : Nat) (w : World) (hr : Row w T 46 #[.slice A n cap]) :
 Calls Tryz.prog 131 #[.pointer (some ⟨T, 0, none⟩)] w fun e w' => e = .returned (.int .i64 (JR (decide (1 ≤ n ∧ n ≤ 20)) 18)) ∧ Below w.heap.size w w' := by
 have c := hr.cellv (i := 0) (v := .slice A n cap) rfl
 by_cases h1 : 1 ≤ n
 · by_cases h2 : n ≤ 20
   · have h1' : (1 : Int) ≤ (n : Int) := by omega
     have h2' : decide ((n : Int) ≤ 20) = true := by simp; omega
     have Hd : Hid (decide (1 ≤ n ∧ n ≤ 20) = true) := by show _ = _; simp [h1, h2]
     clear h1 h2
     go_enter Tryz.func131, Tryz.ntmps131
     go_wp2_with fail
     refine (Je _ _ _).mono ?_
     rintro e w' ⟨rfl, rfl⟩
     go_wp2_with fail
     go_ret
     exact ⟨by rw [Hd.out]; rfl, Below.refl _ _⟩
   · have h1' : (1 : Int) ≤ (n : Int) := by omega
     have h2' : decide ((n : Int) ≤ 20) = false := by simp; omega
     have Hd : Hid (decide (1 ≤ n ∧ n ≤ 20) = false) := by show _ = _; simp [h2]
     clear h1 h2
     go_enter Tryz.func131, Tryz.ntmps131
     go_wp2_with fail
     refine (Je _ _ _).mono ?_
     rintro e w' ⟨rfl, rfl⟩
     go_wp2_with fail
     go_ret
     exact ⟨by rw [Hd.out]; rfl, Below.refl _ _⟩
 · have h1' : (n : Int) < 1 := by omega
   have Hd : Hid (decide (1 ≤ n ∧ n ≤ 20) = false) := by show _ = _; simp [h1]
   clear h1
   go_enter Tryz.func131, Tryz.ntmps131
   go_wp2_with fail
   refine (Je _ _ _).mono ?_
   rintro e w' ⟨rfl, rfl⟩
   go_wp2_with fail
   go_ret
   exact ⟨by rw [Hd.out]; rfl, Below.refl _ _⟩
theorem AgC (F : Nat) (fuel : Int) (w : World) (hr : Row w F 3 #[.int .i64 fuel]) :
 Calls Tryz.prog 135 #[.pointer (some ⟨F, 0, none⟩)] w fun e w' => e = .returned (.int .i64 (JR (decide (1 ≤ fuel ∧ fuel ≤ 10000)) 19)) ∧ Below w.heap.size w w' := by
 have c := hr.cellv (i := 0) (v := .int .i64 fuel) rfl
 by_cases h1 : 1 ≤ fuel
 · by_cases h2 : fuel ≤ 10000
   · have h2' : decide (fuel ≤ 10000) = true := by simp; omega
     have Hd : Hid (decide (1 ≤ fuel ∧ fuel ≤ 10000) = true) := by show _ = _; simp [h1, h2]
     clear h2
     go_enter Tryz.func135, Tryz.ntmps135
     go_wp2_with fail
     refine (Je _ _ _).mono ?_
     rintro e w' ⟨rfl, rfl⟩
     go_wp2_with fail
     go_ret
     exact ⟨by rw [Hd.out]; rfl, Below.refl _ _⟩
   · have h2' : decide (fuel ≤ 10000) = false := by simp; omega
     have Hd : Hid (decide (1 ≤ fuel ∧ fuel ≤ 10000) = false) := by show _ = _; simp [h2]
     clear h2
     go_enter Tryz.func135, Tryz.ntmps135
     go_wp2_with fail
     refine (Je _ _ _).mono ?_
     rintro e w' ⟨rfl, rfl⟩
     go_wp2_with fail
     go_ret
     exact ⟨by rw [Hd.out]; rfl, Below.refl _ _⟩
 · have h1' : fuel < 1 := by omega
   have Hd : Hid (decide (1 ≤ fuel ∧ fuel ≤ 10000) = false) := by show _ = _; simp [h1]
   clear h1
   go_enter Tryz.func135, Tryz.ntmps135
   go_wp2_with fail
   refine (Je _ _ _).mono ?_
   rintro e w' ⟨rfl, rfl⟩
   go_wp2_with fail
   go_ret
   exact ⟨by rw [Hd.out]; rfl, Below.refl _ _⟩
theorem AgB (T O P : Nat) (A : Option Addr) (cap : Nat) (l : List IntsV) (params : Int) (w : World) (hr : Rd w A (Z6 l)) (hl : l.length ≤ 1000000) (rT : Row w T 46 #[.slice A l.length cap]) (rO : Row w O 195 #[.func (.func 129) #[] #[.pointer (some ⟨P, 0, none⟩)]]) (rP : Row w P 3 #[.int .i64 params]) :
 Calls Tryz.prog 133 #[.pointer (some ⟨T, 0, none⟩), .pointer (some ⟨O, 0, none⟩)] w fun e w' => e = .returned (.int .i64 (JR (!l.any fun x => (x.l.length : Int) != params) 18)) ∧ Below w.heap.size w w' := by
 have c1 := rT.cellv (i := 0) (v := .slice A l.length cap) rfl
 have c2 := rO.cellv (i := 0) (v := .func (.func 129) #[] #[.pointer (some ⟨P, 0, none⟩)]) rfl
 have H1 := Lh (Adi P A cap l (fun x => (x.l.length : Int) != params) w (fun W => (Rd W A (Z6 l) ∧ Row W P 3 #[.int .i64 params]) ∧ Below w.heap.size w W) ⟨⟨hr, rP⟩, Below.refl _ _⟩ (fun W h => h.1.1) (fun W h => h.2) (fun x _ W h => AhD P params x W h.1.2) hl)
 clear rT rO rP hr hl
 go_enter Tryz.func133, Tryz.ntmps133
 go_wp2_with fail
 refine H1.out.mono ?_
 rintro e w1 ⟨rfl, b1⟩
 clear H1 c1 c2
 generalize hb : (l.any fun x => (x.l.length : Int) != params) = b
 have Hb := Lh hb
 clear hb
 cases b
 all_goals
  go_wp2_with fail
  refine (Je _ _ _).mono ?_
  rintro e w' ⟨rfl, rfl⟩
  go_wp2_with fail
  go_ret
  exact ⟨by rw [Hb.out]; rfl, b1⟩
theorem AeV (M T O F : Nat) (e1 e2 e3 : Int) (w : World) (S S2 : World → Prop) [stS : St S] (hS : S w) (hs : ∀ W, S W → Row W M 164 #[.func (.func 131) #[] #[.pointer (some ⟨T, 0, none⟩)], .func (.func 133) #[] #[.pointer (some ⟨T, 0, none⟩), .pointer (some ⟨O, 0, none⟩)], .func (.func 135) #[] #[.pointer (some ⟨F, 0, none⟩)]] ∧ S2 W) (hlo : ∀ W, S W → Below w.heap.size w W)
 (h2 : ∀ W, S2 W → Calls Tryz.prog 131 #[.pointer (some ⟨T, 0, none⟩)] W fun e W' => e = .returned (.int .i64 e1) ∧ Below W.heap.size W W')
 (h3 : ∀ W, S2 W → Calls Tryz.prog 133 #[.pointer (some ⟨T, 0, none⟩), .pointer (some ⟨O, 0, none⟩)] W fun e W' => e = .returned (.int .i64 e2) ∧ Below W.heap.size W W')
 (h4 : ∀ W, S2 W → Calls Tryz.prog 135 #[.pointer (some ⟨F, 0, none⟩)] W fun e W' => e = .returned (.int .i64 e3) ∧ Below W.heap.size W W') :
 Calls Tryz.prog 130 #[.slice (some ⟨M, 0, none⟩) 3 3] w fun e w' => e = .returned (.int .i64 (orL [e1, e2, e3])) ∧ Below w.heap.size w w' := by
 have H2 := Lh h2
 have H3 := Lh h3
 have H4 := Lh h4
 have Hs := Lh hs
 have Hlo := Lh hlo
 clear h2 h3 h4 hs hlo
 go_enter Tryz.func130, Tryz.ntmps130
 go_wp2
 go_loopw [8] (fun i wr => ∃ k : Nat, i = .int .i64 (k : Int) ∧ k ≤ 3 ∧ Hid (∀ j : Nat, j < k → ([e1, e2, e3] : List Int)[j]? = some 0) ∧ S wr) (fun i _ => 3 - (intOf i).toNat)
 case atStart => exact ⟨0, rfl, Nat.zero_le _, Lh (fun j hj => by omega), hS⟩
 case round =>
  clear hS
  obtain ⟨k, rfl, hk, Hz, hS⟩ := hrel
  have hk4 : k = 0 ∨ k = 1 ∨ k = 2 ∨ k = 3 := by omega
  clear hk
  rcases hk4 with rfl | rfl | rfl | rfl
  · skip
    have hrow := (Hs.out _ hS).1
    have cc := hrow.cellv (i := 0) (v := .func (.func 131) #[] #[.pointer (some ⟨T, 0, none⟩)]) rfl
    have H1 := Lh (H2.out wr ((Hs.out _ hS).2))
    clear hrow
    go_wp2_with fail
    refine H1.out.mono ?_
    rintro e w' ⟨rfl, b1⟩
    replace hS := stS.go hS b1
    clear cc H1 b1
    by_cases he : e1 = 0
    · have he' : (e1 != 0) = false := by simp [he]
      have Hz2 : Hid (∀ j : Nat, j < 0 + 1 → ([e1, e2, e3] : List Int)[j]? = some 0) := fun j hj => by
       by_cases hj2 : j < 0
       · exact Hz.out j hj2
       · obtain rfl : j = 0 := by omega
         simp [he]
      clear he
      go_wp2_with fail
      go_roundw
      case rel => exact ⟨0 + 1, by go_num, by omega, Hz2, hS⟩
      case measure => simp [intOf]
    · have he' : (e1 != 0) = true := by simpa using he
      have Hr : Hid (orL [e1, e2, e3] = e1) := by
       show _ = _
       simp [orL, he]
      clear he
      go_wp2_with fail
      go_ret
      exact ⟨by rw [Hr.out]; rfl, Hlo.out _ hS⟩
  · skip
    have hrow := (Hs.out _ hS).1
    have cc := hrow.cellv (i := 1) (v := .func (.func 133) #[] #[.pointer (some ⟨T, 0, none⟩), .pointer (some ⟨O, 0, none⟩)]) rfl
    have H1 := Lh (H3.out wr ((Hs.out _ hS).2))
    clear hrow
    go_wp2_with fail
    refine H1.out.mono ?_
    rintro e w' ⟨rfl, b1⟩
    replace hS := stS.go hS b1
    clear cc H1 b1
    by_cases he : e2 = 0
    · have he' : (e2 != 0) = false := by simp [he]
      have Hz2 : Hid (∀ j : Nat, j < 1 + 1 → ([e1, e2, e3] : List Int)[j]? = some 0) := fun j hj => by
       by_cases hj2 : j < 1
       · exact Hz.out j hj2
       · obtain rfl : j = 1 := by omega
         simp [he]
      clear he
      go_wp2_with fail
      go_roundw
      case rel => exact ⟨1 + 1, by go_num, by omega, Hz2, hS⟩
      case measure => simp [intOf]
    · have he' : (e2 != 0) = true := by simpa using he
      have Hr : Hid (orL [e1, e2, e3] = e2) := by
       show _ = _
       have h0 := Hz.out 0 (by omega); simp at h0; simp [orL, h0, he]
      clear he
      go_wp2_with fail
      go_ret
      exact ⟨by rw [Hr.out]; rfl, Hlo.out _ hS⟩
  · skip
    have hrow := (Hs.out _ hS).1
    have cc := hrow.cellv (i := 2) (v := .func (.func 135) #[] #[.pointer (some ⟨F, 0, none⟩)]) rfl
    have H1 := Lh (H4.out wr ((Hs.out _ hS).2))
    clear hrow
    go_wp2_with fail
    refine H1.out.mono ?_
    rintro e w' ⟨rfl, b1⟩
    replace hS := stS.go hS b1
    clear cc H1 b1
    by_cases he : e3 = 0
    · have he' : (e3 != 0) = false := by simp [he]
      have Hz2 : Hid (∀ j : Nat, j < 2 + 1 → ([e1, e2, e3] : List Int)[j]? = some 0) := fun j hj => by
       by_cases hj2 : j < 2
       · exact Hz.out j hj2
       · obtain rfl : j = 2 := by omega
         simp [he]
      clear he
      go_wp2_with fail
      go_roundw
      case rel => exact ⟨2 + 1, by go_num, by omega, Hz2, hS⟩
      case measure => simp [intOf]
    · have he' : (e3 != 0) = true := by simpa using he
      have Hr : Hid (orL [e1, e2, e3] = e3) := by
       show _ = _
       have h0 := Hz.out 0 (by omega); have h1 := Hz.out 1 (by omega); simp at h0 h1; simp [orL, h0, h1, he]
      clear he
      go_wp2_with fail
      go_ret
      exact ⟨by rw [Hr.out]; rfl, Hlo.out _ hS⟩
  · have Hr : Hid (orL [e1, e2, e3] = 0) := by
     show _ = _
     have h0 := Hz.out 0 (by omega)
     have h1 := Hz.out 1 (by omega)
     have h2 := Hz.out 2 (by omega)
     simp at h0 h1 h2
     simp [orL, h0, h1, h2]
    go_wp2
    go_ret
    exact ⟨by rw [Hr.out]; rfl, Hlo.out _ hS⟩
theorem Afv (params fuel : Int) (l : List IntsV) : orL [JR (decide (1 ≤ l.length ∧ l.length ≤ 20)) 18, JR (!l.any fun x => (x.l.length : Int) != params) 18, JR (decide (1 ≤ fuel ∧ fuel ≤ 10000)) 19] = Jd params (l.map IntsV.l) fuel := by
 unfold JR
 by_cases h1 : (l.map IntsV.l).length < 1 ∨ 20 < (l.map IntsV.l).length
 · rw [AgD h1]
   rw [List.length_map] at h1
   have : ¬ (1 ≤ l.length ∧ l.length ≤ 20) := by omega
   simp [orL, this]
 · by_cases h2 : ∀ t ∈ l.map IntsV.l, (t.length : Int) = params
   · rw [AgF h1 h2]
     rw [List.length_map] at h1
     have h3 : 1 ≤ l.length ∧ l.length ≤ 20 := by omega
     have h4 : (l.any fun x => (x.l.length : Int) != params) = false := by
      rw [List.any_eq_false]
      intro x hx
      have := h2 x.l (List.mem_map_of_mem hx)
      simp [this]
     by_cases h5 : 1 ≤ fuel ∧ fuel ≤ 10000
     · have e : (if fuel < 1 ∨ 10000 < fuel then (19 : Int) else 0) = 0 := if_neg (by omega)
       rw [e]; simp [orL, h3, h4, h5]
     · have e : (if fuel < 1 ∨ 10000 < fuel then (19 : Int) else 0) = 19 := if_pos (by omega)
       rw [e]; simp [orL, h3, h4, h5]
   · have h2' : ∃ x ∈ l, ¬ (x.l.length : Int) = params := by
      refine Classical.byContradiction fun hn => h2 fun t ht => ?_
      obtain ⟨x, hx, rfl⟩ := List.mem_map.1 ht
      exact Classical.byContradiction fun hne => hn ⟨x, hx, hne⟩
     obtain ⟨x, hx, hne⟩ := h2'
     rw [AgE (List.mem_map_of_mem hx) hne]
     rw [List.length_map] at h1
     have h3 : 1 ≤ l.length ∧ l.length ≤ 20 := by omega
     have h4 : (l.any fun x => (x.l.length : Int) != params) = true := by
      rw [List.any_eq_true]
      exact ⟨x, hx, by simpa using hne⟩
     simp [orL, h3, h4]
theorem AgY (w : World) : (zeroValue 195).run Tryz.prog w = .ok .nilFunc w := by kernel_rfl
theorem Ahn : (Tryz.prog.info? 164).map (fun i => (i.zero, i.size)) = some (some .nilFunc, 1) := by kernel_rfl
theorem Afw (params fuel : Int) (A : Option Addr) (cap : Nat) (l : List IntsV) (w : World) (hr : Rd w A (Z6 l)) (hl : l.length ≤ 1000000) :
 Calls Tryz.prog 68 #[.int .i64 params, .slice A l.length cap, .int .i64 fuel] w fun e w' => e = .returned (.int .i64 (Jd params (l.map IntsV.l) fuel)) ∧ Below w.heap.size w w' := by
 have Hr := Lh hr
 have Hl := Lh hl
 clear hr hl
 go_enter Tryz.func68, Tryz.ntmps68
 go_wp2_with (refine Qp _ _ rfl ?_)
 refine Stop.to ?_
 refine Qf rfl 3 _ rfl #[.int .i64 params] rfl ?_
 intro P Pw Ph Pr Pb
 go_wp2_with (refine Qp _ _ rfl ?_)
 refine Stop.to ?_
 refine Qf rfl 46 _ rfl #[.slice A l.length cap] rfl ?_
 intro T Tw Th Tr Tb
 go_wp2_with (refine Qp _ _ rfl ?_)
 refine Stop.to ?_
 refine Qf rfl 3 _ rfl #[.int .i64 fuel] rfl ?_
 intro F Fw Fh Fr Fb
 have rP := (Pr.below Tb (Nat.lt_of_lt_of_le Pr.lt Th)).below Fb (by have := Pr.lt; have := Tb.size; omega)
 have rT := Tr.below Fb (Nat.lt_of_lt_of_le Tr.lt Fh)
 have rF := Fr
 have b1 := (Below.refl w.heap.size w).trans (Pb.mono Ph)
 have b2 := b1.trans ((Tb.mono Th).mono b1.size)
 have b3 := b2.trans ((Fb.mono Fh).mono b2.size)
 clear Pr Tr Fr Pb Tb Fb Ph Th Fh b1 b2
 go_wp2_with (refine QY _ rfl ?_)
 refine Stop.to ?_
 refine Ql rfl 195 rfl _ _ (AgY _) rfl ?_
 intro O Ow Oh Or Ob
 go_wp2_with (refine QD _ _ _ rfl ?_)
 refine Stop.to ?_
 refine QJ rfl 195 _ _ rfl O 0 rfl (.func (.func 129) #[] #[.pointer (some ⟨P, 0, none⟩)]) rfl [.func (.func 129) #[] #[.pointer (some ⟨P, 0, none⟩)]] rfl 195 _ #[.func (.func 129) #[] #[.pointer (some ⟨P, 0, none⟩)]] Or (by kernel_rfl) (by show 0 + 1 ≤ 1; omega) (by simp [Value.oneCell']) rfl ?_
 intro Ox Os Oo
 have Oc := (Ob.mono Oh).trans (Oo.below Oh)
 replace rP := rP.below Oc rP.lt
 replace rT := rT.below Oc rT.lt
 replace rF := rF.below Oc rF.lt
 have b4 := b3.trans (Oc.mono b3.size)
 clear Or Ob Oh Oo Oc b3
 go_wp2_with (refine Zp _ _ _ rfl ?_)
 refine Stop.to ?_
 refine Qu rfl 266 3 _ rfl 164 #[.func (.func 131) #[] #[.pointer (some ⟨T, 0, none⟩)], .func (.func 133) #[] #[.pointer (some ⟨T, 0, none⟩), .pointer (some ⟨O, 0, none⟩)], .func (.func 135) #[] #[.pointer (some ⟨F, 0, none⟩)]] (ZH Tryz.underlying266 Ahn (by decide) (by decide) (by kernel_rfl)) ?_
 intro M Mw Mh Mr Mb
 have Mc := Mb.mono Mh
 replace rP := rP.below Mc rP.lt
 replace rT := rT.below Mc rT.lt
 replace rF := rF.below Mc rF.lt
 replace Os := Os.below Mc Os.lt
 have b5 := b4.trans (Mc.mono b4.size)
 have hfst := AeV M T O F (JR (decide (1 ≤ l.length ∧ l.length ≤ 20)) 18) (JR (!l.any fun x => (x.l.length : Int) != params) 18) (JR (decide (1 ≤ fuel ∧ fuel ≤ 10000)) 19) Mw
  (fun W => (Row W M 164 #[.func (.func 131) #[] #[.pointer (some ⟨T, 0, none⟩)], .func (.func 133) #[] #[.pointer (some ⟨T, 0, none⟩), .pointer (some ⟨O, 0, none⟩)], .func (.func 135) #[] #[.pointer (some ⟨F, 0, none⟩)]] ∧ (Rd W A (Z6 l) ∧ Row W T 46 #[.slice A l.length cap] ∧ Row W O 195 #[.func (.func 129) #[] #[.pointer (some ⟨P, 0, none⟩)]] ∧ Row W P 3 #[.int .i64 params] ∧ Row W F 3 #[.int .i64 fuel])) ∧ Below Mw.heap.size Mw W)
  (fun W => Rd W A (Z6 l) ∧ Row W T 46 #[.slice A l.length cap] ∧ Row W O 195 #[.func (.func 129) #[] #[.pointer (some ⟨P, 0, none⟩)]] ∧ Row W P 3 #[.int .i64 params] ∧ Row W F 3 #[.int .i64 fuel])
  ⟨⟨Mr, Hr.out.go b5, rT, Os, rP, rF⟩, Below.refl _ _⟩ (fun W h => h.1) (fun W h => h.2)
  (fun W h => AgA T A l.length cap W h.2.1) (fun W h => AgB T O P A cap l params W h.1 Hl.out h.2.1 h.2.2.1 h.2.2.2.1) (fun W h => AgC F fuel W h.2.2.2.2)
 rw [Afv] at hfst
 have Hf := Lh hfst
 clear hfst rP rT rF Os Mr Mb Mc Mh b4
 go_wp2_with fail
 refine Hf.out.mono ?_
 rintro e w9 ⟨rfl, b9⟩
 have b10 := b5.trans (b9.mono b5.size)
 clear Hf b9 b5
 go_wp2_with fail
 go_ret
 exact ⟨rfl, b10⟩
attribute [local go_sem] Oper.semAt_some
theorem MtOk.kx {X : Nat → Prop} {W W' : World} {x : MtV} (h : MtOk W x) (k : KpX X W W') (s : Qi x.m.d.path ≠ [] → ∀ ad, x.A = some ad → ¬ X ad.block) : MtOk W' x := ⟨k.rd h.rd s, h.len, h.nil, h.dig⟩
end Go.Proofs.YtdcmppdhdcjpfaaGreat
namespace Go.Proofs.YtdcmppdhdcjpfaaGreat
open Go.RowKit Go.Deep
def cp0 : CpV := ⟨⟨0, none, 0, [], none, 0, []⟩, none, 0, [], 0, none, 0, [], ⟨0, 0, 0⟩⟩
structure Cd where
 params : Int
 V : List Int
 body : List Nd
 tests : List (List Int)
 fuel : Int
 muts : List Mt
 sc : Sc
def CpV.data (c : CpV) : Cd := ⟨c.p.params, c.p.V, c.p.body, c.testsL, c.fuel, c.muts, c.sc⟩
def Sc.add (a b : Sc) : Sc := ⟨a.alive + b.alive, a.killed + b.killed, a.timeout + b.timeout⟩
def MtT (W : World) (x : MtV) : Prop := MtOk W x ∧ IntB W x.A
theorem MtT.same {A B : World} {x : MtV} (h : MtT A x) (hb : ∀ (a : Addr) (cs : Array Value), x.A = some a → Row A a.block 3 cs → Row B a.block 3 cs) : MtT B x :=
 ⟨⟨fun j u hj => by
  obtain ⟨a, e, hc⟩ := h.1.rd j u hj
  obtain ⟨cs, hr⟩ := h.2 a e
  exact ⟨a, e, (World.cell?_of_block (by rw [JV]; exact (hb a cs e hr).trans (Eq.symm hr))).trans hc⟩, h.1.len, h.1.nil, h.1.dig⟩, fun a e => by
  obtain ⟨cs, hr⟩ := h.2 a e
  exact ⟨cs, hb a cs e hr⟩⟩
theorem MtT.go {A B : World} {x : MtV} (h : MtT A x) (b : Below A.heap.size A B) : MtT B x := h.same fun _ _ _ hr => hr.below b hr.lt
theorem MtT.abide {W W' : World} {x : MtV} {row : Option Nat} {q : Nat → Prop} (h : MtT W x) (hg : W.grownBy W' row) (hr : ∀ r, row = some r → False ∨ (q r ∧ ∃ o : Obj, W.heap[r]? = some o ∧ o.isCells = false)) : MtT W' x := h.same fun _ _ _ k => k.abide hg hr
theorem MtT.own {W W' : World} {x : MtV} {lim n : Nat} {v : Value} {xs : List Value} (h : MtT W x) (hown : W.ownsRow lim 54 8 v n xs) (hg : W.grownBy W' v.ownBlock) : MtT W' x := h.same fun _ _ _ k => k.grown hg (Qz hown k (by decide))
theorem MtT.only {W W' : World} {x : MtV} {g : Nat} {t : TypeId} {cs : Array Value} (h : MtT W x) (hr : Row W g t cs) (ht : t ≠ 3) (o : Only g W W') : MtT W' x := h.same fun a cs' _ k => k.only o (fun e => by
 have h1 : W.heap[g]? = some (.cells cs' 3 (0, 0)) := by rw [← e]; exact k
 rw [show W.heap[g]? = some (.cells cs t (0, 0)) from hr] at h1
 injection h1 with h1; injection h1 with _ h1; exact ht h1)
end Go.Proofs.YtdcmppdhdcjpfaaGreat
namespace Go.Proofs.YtdcmppdhdcjpfaaGreat
open Go.ChangeShapes Go.WideShapes Go.RowKit Go.Deep
theorem Abz : Tryz.prog.cellsOf 35 = 3 := by kernel_rfl
structure DlRaw (W : World) (x : DlV) : Prop where
 rd : Rd W x.A (Qi x.d.path)
 len : x.d.path.length ≤ x.cap
 cap : x.cap ≤ maxLen
 nil : x.A = none → x.cap = 0
 all : ∀ n ∈ x.d.path, InI n
 op : InI x.d.op
 n : InI x.d.n
theorem DlRaw.go {W W' : World} {x : DlV} (h : DlRaw W x) (b : Below W.heap.size W W') : DlRaw W' x := ⟨h.rd.go b, h.len, h.cap, h.nil, h.all, h.op, h.n⟩
instance St.dlraw {x : DlV} : St (fun W => DlRaw W x) := ⟨fun h b => h.go b⟩
theorem DlRaw.none {W : World} {x : DlV} (h : DlRaw W x) (e : x.A = none) : x.d.path = [] := List.eq_nil_of_length_eq_zero (by have := h.nil e; have := h.len; omega)
theorem DlRaw.ok {W : World} {x : DlV} (h : DlRaw W x) (hl : x.d.path.length ≤ 1000000) : DlOk W x := ⟨h.rd, hl⟩
section
variable {H : Type} {enc : TypeId × Value → H} {w : World} {base : Nat} {spare : Nat → Bool} {held : Bool}
theorem Acu {fuel : Nat} {cs : List Value} {x : DataW H × List MemPlace} (h : DataW.trod enc Tryz.prog w base spare held fuel 35 cs = some x) : ∃ x : DlV, DlRaw w x ∧ cs = x.cells.toList := by
 obtain ⟨hl, n, hf⟩ := Yr Tryz.underlying35 h
 have hl3 : cs.length = 3 := hl.trans Abz
 match cs, hl3 with
 | [a, b, c], _ =>
  obtain ⟨_, h0⟩ := hf 0 _ rfl
  obtain ⟨_, h1⟩ := hf 1 _ rfl
  obtain ⟨_, h2⟩ := hf 2 _ rfl
  obtain ⟨r, hr, e0⟩ := Xx h0
  obtain ⟨n1, e1, w1⟩ := Xl Tryz.underlying3 h1
  obtain ⟨n2, e2, w2⟩ := Xl Tryz.underlying3 h2
  simp [Y9, U5] at e0 e1 e2
  exact ⟨⟨r.addr, r.cap, ⟨r.l, n1, n2⟩⟩, ⟨hr.reads, hr.len, hr.cap, hr.nil, hr.all, w1, w2⟩, by rw [e0, e1, e2]; rfl⟩
theorem Acw {fuel : Nat} {cs : List Value} {x : DataW H × List MemPlace} (h : DataW.trod enc Tryz.prog w base spare held fuel 46 cs = some x) :
 ∃ (A : Option Addr) (cap : Nat) (l : List IntsV), cs = [.slice A l.length cap] ∧ l.length ≤ cap ∧ cap ≤ maxLen ∧ (A = none → cap = 0) ∧ Rd w A (Z6 l) ∧ ∀ e ∈ l, e.ok w := by
 obtain ⟨A, cap, xss, rfl, h1, h2, hA, h3, h4, h5⟩ := Ug Tryz.underlying46 h
 obtain ⟨l, rfl, hok⟩ := YV (fun x : IntsV => [x.val]) (fun x => x.ok w) xss (fun xs hxs => by obtain ⟨n, y, hy⟩ := h5 xs hxs; obtain ⟨r, hr, e⟩ := Xx hy; exact ⟨r, e, hr⟩)
 rw [List.length_map] at h1
 refine ⟨A, cap, l, by rw [List.length_map], h1, h2, hA, ?_, hok⟩
 rw [show Z6 l = (l.map fun x : IntsV => [x.val]).flatten from by
  clear h1 h2 hA h3 h4 h5 hok h
  induction l with
  | nil => rfl
  | cons x l ih => simp only [Z6, List.map_cons, List.flatten_cons, List.singleton_append] at ih ⊢; rw [← ih]]
 exact h4
theorem AdH {r : Go.Reach} {b0 : Nat} {v : Value} {d : DataW H} {p : List MemPlace} (hv : Value.okWide Tryz.prog w r b0 35 v) (h : DataW.Trod enc Tryz.prog w base spare held 35 v d p) : ∃ x : DlV, DlRaw w x ∧ v = .agg x.cells := by
 obtain ⟨cs, rfl, fuel, x, hx⟩ := AcL Tryz.underlying35 hv h
 obtain ⟨y, hy, rfl⟩ := Acu hx
 exact ⟨y, hy, rfl⟩
end
end Go.Proofs.YtdcmppdhdcjpfaaGreat
namespace Go.Proofs.YtdcmppdhdcjpfaaGreat
open Go.RowKit Go.Deep
def bodyE : List Nd := [⟨20, 1⟩, ⟨25, 0⟩, ⟨3, 0⟩]
def treeE : Tr := .node ⟨20, 1⟩ [.node ⟨25, 0⟩ [.node ⟨3, 0⟩ []]]
def pE (g1 g2 : Nat) : PgV := ⟨1, some ⟨g1, 0, none⟩, 1, [0], some ⟨g2, 0, none⟩, 3, bodyE⟩
theorem JL {W : World} {g : Nat} {t : TypeId} {cs : List Value} (h : Row W g t cs.toArray) : Rd W (some ⟨g, 0, none⟩) cs := JM h
theorem Ai2 {g1 g2 : Nat} {W : World} (r1 : Row W g1 3 (Qi [0]).toArray) (r2 : Row W g2 85 (bodyE.flatMap Nd.cells).toArray) : (pE g1 g2).ok W :=
 ⟨by unfold InI pE; dsimp only; omega, by simp [pE], by unfold maxLen; simp [pE], fun h => (by cases h), JL r1, by simp [pE, InI], by simp [pE, bodyE], by unfold maxLen; simp [pE], fun h => (by cases h), JL r2, by simp [pE, bodyE, InI]⟩
theorem Ek : treeE.fits := by
 refine .mk _ _ (by rfl) (fun k hk => ?_)
 rw [List.mem_singleton.1 hk]
 refine .mk _ _ (by rfl) (fun k hk => ?_)
 rw [List.mem_singleton.1 hk]
 exact .mk _ _ (by rfl) (fun k hk => by simp at hk)
theorem AiS (g1 g2 : Nat) : Good (pE g1 g2) treeE := ⟨⟨Ek, [], by rfl⟩, by rfl, by show JS 1 [0]; decide, rfl, by show ofT [0] treeE = 2; decide +kernel⟩
theorem Vp (g1 g2 : Nat) : Fine (pE g1 g2) treeE := ⟨AiS g1 g2, by simp [pE, bodyE], by show ∀ x ∈ bodyE, ¬ Qv x < 0; decide, by decide +kernel⟩
theorem Xu : (Tryz.prog.info? 3).map (fun i => (i.zero, i.size)) = some (some (.int .i64 0), 1) := by kernel_rfl
theorem Aho : (Tryz.prog.info? 85).map (fun i => (i.zero, i.size)) = some (some (.agg #[.int .i64 0, .int .i64 0]), 2) := by kernel_rfl
theorem Ag0 {w : World} : (zeroValue 25).run Tryz.prog w = .ok (.agg #[.int .i64 0, .slice none 0 0, .slice none 0 0]) w := by kernel_rfl
theorem Afk (A B : Option Addr) (c d : Nat) (l : List Nd) (π : List Int) (w : World) (hr : Rd w A (l.flatMap Nd.cells)) (hl : l.length ≤ 1000) (hp : Rd w B (Qi π)) (hlp : π.length ≤ 1000000) :
 Calls Tryz.prog 116 #[.slice A l.length c, .slice B π.length d] w fun e w' => e = .returned (.int .i64 (KF l π)) ∧ Below w.heap.size w w' := by
 obtain ⟨S, hSd⟩ : ∃ S, S = (fun W => Rd W A (l.flatMap Nd.cells) ∧ Rd W B (Qi π) ∧ Below w.heap.size w W) := ⟨_, rfl⟩
 have stS : St S := by rw [hSd]; infer_instance
 have T0 : Hid (∀ W, S W → Rd W A (l.flatMap Nd.cells)) := by show ∀ W, _; rw [hSd]; exact fun W h => h.1
 have T1 : Hid (∀ W, S W → Rd W B (Qi π)) := by show ∀ W, _; rw [hSd]; exact fun W h => h.2.1
 have T2 : Hid (∀ W, S W → Below w.heap.size w W) := by show ∀ W, _; rw [hSd]; exact fun W h => h.2.2
 have hS : S w := by rw [hSd]; exact ⟨hr, hp, Below.refl _ _⟩
 have He := Lh (JH A c l (0 : Int) w hr hl)
 have Hl := Lh hl
 have hlI : (l.length : Int) ≤ 1000 := by omega
 have hpI : (π.length : Int) ≤ 1000000 := by omega
 clear hSd hr hp hl hlp
 go_enter Tryz.func116, Tryz.ntmps116
 go_wp2_with fail
 go_step3
 go_wp2_with fail
 refine He.out.mono ?_
 rintro e w1 ⟨rfl, b1⟩
 replace hS := stS.go hS b1
 clear He b1
 by_cases hez : endZ l 0 = (l.length : Int)
 rotate_left
 · have hne : (endZ l 0 != (l.length : Int)) = true := by simpa using hez
   have hf : KF l π = -1 := if_neg hez
   have Hf := Lh hf.symm
   clear hez hf
   go_wp2_with fail
   try rw [Exit.noGoto_ret]
   go_ret
   exact ⟨ZF Hf.out, T2.out _ hS⟩
 have hne : (endZ l 0 != (l.length : Int)) = false := by simpa using hez
 have hf : KF l π = Xm l 0 π := if_pos hez
 have Hf := Lh hf
 clear hez hf
 go_wp2_with fail
 go_step3
 go_wp2_with fail
 go_loopw [5, 16] (fun at_ i wr => ∃ (a : Int) (k : Nat), at_ = .int .i64 a ∧ i = .int .i64 (k : Int) ∧ k ≤ π.length ∧ Hid (KF l π = Xm l a (π.drop k)) ∧ S wr) (fun _ i _ => π.length - (intOf i).toNat)
 case atStart => exact ⟨0, 0, rfl, by simp, Nat.zero_le _, Hf.out, hS⟩
 case round =>
  clear hS Hf
  obtain ⟨a, k, rfl, rfl, hk1, Hk, hS⟩ := hrel
  by_cases hkn : k < π.length
  rotate_left
  · have hge : ¬ ((k : Int) < (π.length : Int)) := by omega
    obtain rfl : k = π.length := by omega
    have Hf : Hid (KF l π = a) := by have := Hk.out; rw [List.drop_length] at this; exact this
    clear hkn Hk
    go_wp2_with fail
    try rw [Exit.noGoto_ret]
    go_ret
    exact ⟨ZF Hf.out.symm, T2.out _ hS⟩
  obtain ⟨i, hi⟩ : ∃ i, π[k]? = some i := ⟨_, List.getElem?_eq_getElem (by omega)⟩
  obtain ⟨bd, hbd, c0⟩ := Zf (T1.out _ hS) hi
  subst hbd
  have hka : (k : Int) < (π.length : Int) := by omega
  have Hi := Lh hi
  have Hcall := Lh (XN A c l a wr (T0.out _ hS) Hl.out)
  clear hi hkn
  go_wp2_with fail
  refine Hcall.out.mono ?_
  rintro e w2 ⟨v, rfl, hown, b2⟩
  obtain ⟨C, cc, rfl, hrC, -, -, -⟩ := Xy hown
  replace hS := stS.go hS b2
  have HrC := Lh hrC
  clear Hcall b2 hown hrC c0
  obtain ⟨n, hn⟩ : ∃ n, n = (kidsZ l a).length := ⟨_, rfl⟩
  have Hn := Lh hn
  rw [← hn]
  clear hn
  by_cases h0 : i < 0
  · have Hf : Hid (KF l π = -1) := by rw [Hid, Hk.out]; exact Aas Hi.out (Or.inl h0)
    clear Hk
    go_wp2_with fail
    try rw [Exit.noGoto_ret]
    go_ret
    exact ⟨ZF Hf.out.symm, T2.out _ hS⟩
  by_cases h1 : (n : Int) ≤ i
  · have Hf : Hid (KF l π = -1) := by rw [Hid, Hk.out]; exact Aas Hi.out (Or.inr (by rw [← Hn.out]; exact h1))
    clear Hk
    go_wp2_with fail
    try rw [Exit.noGoto_ret]
    go_ret
    exact ⟨ZF Hf.out.symm, T2.out _ hS⟩
  obtain ⟨j, rfl⟩ : ∃ j : Nat, i = (j : Int) := ⟨i.toNat, by omega⟩
  obtain ⟨b, hb⟩ : ∃ b, (kidsZ l a)[j]? = some b := ⟨_, List.getElem?_eq_getElem (by have := Hn.out; omega)⟩
  obtain ⟨cd, hcd, c2⟩ := Zf HrC.out hb
  subst hcd
  have Hst : Hid (KF l π = Xm l b (π.drop (k + 1))) := by rw [Hid, Hk.out]; exact AgP Hi.out hb
  have hjn : (j : Int) < (n : Int) := by omega
  clear Hk hb
  go_wp2_with fail
  refine ⟨⟨b, k + 1, rfl, by simp, by omega, Hst, hS⟩, ?_⟩
  simp only [intOf]; omega
end Go.Proofs.YtdcmppdhdcjpfaaGreat
