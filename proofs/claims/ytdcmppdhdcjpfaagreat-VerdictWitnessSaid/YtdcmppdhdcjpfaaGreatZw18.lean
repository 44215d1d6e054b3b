/- Lemmas for VerdictWitnessP. -/
import Derived.Test.YtdcmppdhdcjpfaaGreatZw1
import Derived.Test.YtdcmppdhdcjpfaaGreatZw11
import Derived.Test.YtdcmppdhdcjpfaaGreatZw7
import Derived.Test.YtdcmppdhdcjpfaaGreatZw12
import Derived.Test.YtdcmppdhdcjpfaaGreatZw3
import Derived.Test.YtdcmppdhdcjpfaaGreatZw15
import Derived.Test.YtdcmppdhdcjpfaaGreatZw17
import Derived.Test.YtdcmppdhdcjpfaaGreatZw10
import Derived.Test.YtdcmppdhdcjpfaaGreatZw13
import Derived.OrdersHeld
set_option linter.unusedVariables false
set_option linter.unusedSimpArgs false
set_option maxRecDepth 100000
set_option maxHeartbeats 16000000
namespace Go.Proofs.YtdcmppdhdcjpfaaGreat
open Go.RowKit Go.Deep
theorem AhT {params fuel : Int} {ts : List (List Int)} (h : ts.length < 1 ∨ 20 < ts.length) : JG params ts fuel = 18 := by unfold JG; rw [if_pos h]
theorem AhU {params fuel : Int} {ts : List (List Int)} {l : List Int} (hl : l ∈ ts) (h : ¬ (l.length : Int) = params) : JG params ts fuel = 18 := by
 unfold JG;split
 · rfl
 · rw [if_neg (fun e => h (e l hl))]
theorem AhV {params fuel : Int} {ts : List (List Int)} (h : ¬ (ts.length < 1 ∨ 20 < ts.length)) (h2 : ∀ l ∈ ts, (l.length : Int) = params) : JG params ts fuel = if fuel < 1 ∨ 10000 < fuel then 19 else 0 := by unfold JG; rw [if_neg h, if_pos h2]
def J6 (b : Bool) (e : Int) : Int := if b then 0 else e
theorem Jm (b : Bool) (n : Int) (w : World) : Calls Tryz.prog 132 #[.bool b, .int .i64 n] w fun e w' => e = .returned (.int .i64 (J6 b n)) ∧ w = w' := by
 cases b
 all_goals
  go_enter Tryz.func132, Tryz.ntmps132
  go_wp2
  go_ret
  exact ⟨rfl, rfl⟩
theorem AiZ (P : Nat) (params : Int) (x : IntsV) (w : World) (hr : Row w P 3 #[.int .i64 params]) : Calls Tryz.prog 129 #[x.val, .pointer (some ⟨P, 0, none⟩)] w fun e w' => e = .returned (.bool ((x.l.length : Int) != params)) ∧ Below w.heap.size w w' := by
 have c := hr.cellv (i := 0) (v := .int .i64 params) rfl;rw [show x.val = .slice x.addr x.l.length x.cap from rfl];go_enter Tryz.func129, Tryz.ntmps129
 go_wp2
 go_ret
 exact ⟨rfl, Below.refl _ _⟩
theorem AfT (P : Nat) (A : Option Addr) (cap : Nat) (l : List IntsV) (p : IntsV → Bool) (w : World) (S : World → Prop) [stS : St S] (hS : S w) (hrd : ∀ W, S W → Rd W A (KC l)) (hlo : ∀ W, S W → Below w.heap.size w W)
 (hp : ∀ x ∈ l, ∀ W, S W → Calls Tryz.prog 129 #[.slice x.addr x.l.length x.cap, .pointer (some ⟨P, 0, none⟩)] W fun e W' => e = .returned (.bool (p x)) ∧ Below W.heap.size W W') (hl : l.length ≤ 1000000) :
 Calls Tryz.prog 209 #[.slice A l.length cap, .func (.func 129) #[] #[.pointer (some ⟨P, 0, none⟩)]] w fun e w' => e = .returned (.int .i64 (AcC p l)) ∧ Below w.heap.size w w' := by
 have z := Lh hp;have r := Lh hrd;have m := Lh hlo;have aa : (l.length : Int) ≤ 1000000 := by omega
 clear hp hrd hlo hl;go_enter Tryz.func209, Tryz.ntmps209
 go_wp2
 go_loopw [8] (fun i wr => ∃ k : Nat, i = .int .i64 (k : Int) ∧ k ≤ l.length ∧ Hid (∀ y ∈ l.take k, p y = false) ∧ S wr) (fun i _ => l.length - (intOf i).toNat)
 case atStart => exact ⟨0, rfl, Nat.zero_le _, Lh (fun x h => by simp at h), hS⟩
 case round =>
  clear hS;obtain ⟨k, rfl, hk, c, hS⟩ := hrel;by_cases g : k < l.length
  · obtain ⟨x, h⟩ : ∃ x, l[k]? = some x := ⟨_, Lb g⟩;obtain ⟨ad, s, o⟩ := KL (r.out _ hS) h;have j : Hid (wr.cell? (ad.add k) = some (.slice x.addr x.l.length x.cap)) := o;have q := Lh h;have d := Lh (z.out x (Lg h) wr hS);have v : (k : Int) < (l.length : Int) := by omega
    clear h g o;subst s;(have t := j.out); go_wp2_with fail; clear t;refine d.out.mono ?_;rintro e w' ⟨rfl, u⟩;replace hS := stS.go hS u;clear u d j;cases hs : p x
    · have n := Lh (Yj c.out q.out hs);clear hs q;go_wp2_with fail
      go_roundw
      case rel => exact ⟨k + 1, by go_num, by omega, n, hS⟩
      case measure => simp [intOf]; omega
    · have n := Lh (AcE c.out q.out hs);clear hs q;go_wp2_with fail
      go_ret
      exact ⟨by rw [n.out]; rfl, m.out _ hS⟩
  · obtain rfl : k = l.length := by omega
    have n := Lh (Ae7 (p := p) (l := l) (by have := c.out; rwa [LS] at this));clear g hk;go_wp2
    go_ret
    exact ⟨by rw [n.out]; rfl, m.out _ hS⟩
theorem Ad5 (P : Nat) (A : Option Addr) (cap : Nat) (l : List IntsV) (p : IntsV → Bool) (w : World) (S : World → Prop) [stS : St S] (hS : S w) (hrd : ∀ W, S W → Rd W A (KC l)) (hlo : ∀ W, S W → Below w.heap.size w W)
 (hp : ∀ x ∈ l, ∀ W, S W → Calls Tryz.prog 129 #[.slice x.addr x.l.length x.cap, .pointer (some ⟨P, 0, none⟩)] W fun e W' => e = .returned (.bool (p x)) ∧ Below W.heap.size W W') (hl : l.length ≤ 1000000) :
 Calls Tryz.prog 134 #[.slice A l.length cap, .func (.func 129) #[] #[.pointer (some ⟨P, 0, none⟩)]] w fun e w' => e = .returned (.bool (l.any p)) ∧ Below w.heap.size w w' := by
 have c := Lh (AfT P A cap l p w S hS hrd hlo hp hl);clear hp hrd hlo hl hS;go_enter Tryz.func134, Tryz.ntmps134
 go_wp2_with fail
 refine c.out.mono ?_;rintro e w' ⟨rfl, g⟩;have d := Lh (AcD p l);clear c;go_wp2_with fail
 go_ret
 exact ⟨Z4 d.out.symm, g⟩
theorem AhQ (T : Nat) (A : Option Addr) (n cap : Nat) (w : World) (hr : Row w T 46 #[.slice A n cap]) :
 Calls Tryz.prog 131 #[.pointer (some ⟨T, 0, none⟩)] w fun e w' => e = .returned (.int .i64 (J6 (decide (1 ≤ n ∧ n ≤ 20)) 18)) ∧ Below w.heap.size w w' := by
 have c := hr.cellv (i := 0) (v := .slice A n cap) rfl;by_cases g : 1 ≤ n
 · by_cases j : n ≤ 20
   · have h : (1 : Int) ≤ (n : Int) := by omega
     have k : decide ((n : Int) ≤ 20) = true := by simp; omega
     have d : Hid (decide (1 ≤ n ∧ n ≤ 20) = true) := by show _ = _; simp [g, j]
     clear g j;go_enter Tryz.func131, Tryz.ntmps131
     go_wp2_with fail
     refine (Jm _ _ _).mono ?_;rintro e w' ⟨rfl, rfl⟩;go_wp2_with fail
     go_ret
     exact ⟨by rw [d.out]; rfl, Below.refl _ _⟩
   · have h : (1 : Int) ≤ (n : Int) := by omega
     have k : decide ((n : Int) ≤ 20) = false := by simp; omega
     have d : Hid (decide (1 ≤ n ∧ n ≤ 20) = false) := by show _ = _; simp [j]
     clear g j;go_enter Tryz.func131, Tryz.ntmps131
     go_wp2_with fail
     refine (Jm _ _ _).mono ?_;rintro e w' ⟨rfl, rfl⟩;go_wp2_with fail
     go_ret
     exact ⟨by rw [d.out]; rfl, Below.refl _ _⟩
 · have h : (n : Int) < 1 := by omega
   have d : Hid (decide (1 ≤ n ∧ n ≤ 20) = false) := by show _ = _; simp [g]
   clear g;go_enter Tryz.func131, Tryz.ntmps131
   go_wp2_with fail
   refine (Jm _ _ _).mono ?_;rintro e w' ⟨rfl, rfl⟩;go_wp2_with fail
   go_ret
   exact ⟨by rw [d.out]; rfl, Below.refl _ _⟩
theorem AhS (F : Nat) (fuel : Int) (w : World) (hr : Row w F 3 #[.int .i64 fuel]) :
 Calls Tryz.prog 135 #[.pointer (some ⟨F, 0, none⟩)] w fun e w' => e = .returned (.int .i64 (J6 (decide (1 ≤ fuel ∧ fuel ≤ 10000)) 19)) ∧ Below w.heap.size w w' := by
 have c := hr.cellv (i := 0) (v := .int .i64 fuel) rfl;by_cases h : 1 ≤ fuel
 · by_cases g : fuel ≤ 10000
   · have j : decide (fuel ≤ 10000) = true := by simp; omega
     have d : Hid (decide (1 ≤ fuel ∧ fuel ≤ 10000) = true) := by show _ = _; simp [h, g]
     clear g;go_enter Tryz.func135, Tryz.ntmps135
     go_wp2_with fail
     refine (Jm _ _ _).mono ?_;rintro e w' ⟨rfl, rfl⟩;go_wp2_with fail
     go_ret
     exact ⟨by rw [d.out]; rfl, Below.refl _ _⟩
   · have j : decide (fuel ≤ 10000) = false := by simp; omega
     have d : Hid (decide (1 ≤ fuel ∧ fuel ≤ 10000) = false) := by show _ = _; simp [g]
     clear g;go_enter Tryz.func135, Tryz.ntmps135
     go_wp2_with fail
     refine (Jm _ _ _).mono ?_;rintro e w' ⟨rfl, rfl⟩;go_wp2_with fail
     go_ret
     exact ⟨by rw [d.out]; rfl, Below.refl _ _⟩
 · have k : fuel < 1 := by omega
   have d : Hid (decide (1 ≤ fuel ∧ fuel ≤ 10000) = false) := by show _ = _; simp [h]
   clear h;go_enter Tryz.func135, Tryz.ntmps135
   go_wp2_with fail
   refine (Jm _ _ _).mono ?_;rintro e w' ⟨rfl, rfl⟩;go_wp2_with fail
   go_ret
   exact ⟨by rw [d.out]; rfl, Below.refl _ _⟩
theorem AhR (T O P : Nat) (A : Option Addr) (cap : Nat) (l : List IntsV) (params : Int) (w : World) (hr : Rd w A (KC l)) (hl : l.length ≤ 1000000) (rT : Row w T 46 #[.slice A l.length cap]) (rO : Row w O 195 #[.func (.func 129) #[] #[.pointer (some ⟨P, 0, none⟩)]]) (rP : Row w P 3 #[.int .i64 params]) :
 Calls Tryz.prog 133 #[.pointer (some ⟨T, 0, none⟩), .pointer (some ⟨O, 0, none⟩)] w fun e w' => e = .returned (.int .i64 (J6 (!l.any fun x => (x.l.length : Int) != params) 18)) ∧ Below w.heap.size w w' := by
 have k := rT.cellv (i := 0) (v := .slice A l.length cap) rfl;have m := rO.cellv (i := 0) (v := .func (.func 129) #[] #[.pointer (some ⟨P, 0, none⟩)]) rfl;have c := Lh (Ad5 P A cap l (fun x => (x.l.length : Int) != params) w (fun W => (Rd W A (KC l) ∧ Row W P 3 #[.int .i64 params]) ∧ Below w.heap.size w W) ⟨⟨hr, rP⟩, Below.refl _ _⟩ (fun W h => h.1.1) (fun W h => h.2) (fun x _ W h => AiZ P params x W h.1.2) hl);clear rT rO rP hr hl;go_enter Tryz.func133, Tryz.ntmps133
 go_wp2_with fail
 refine c.out.mono ?_;rintro e n ⟨rfl, j⟩;clear c k m;generalize d : (l.any fun x => (x.l.length : Int) != params) = b;have g := Lh d;clear d;cases b
 all_goals
  go_wp2_with fail
  refine (Jm _ _ _).mono ?_
  rintro e w' ⟨rfl, rfl⟩
  go_wp2_with fail
  go_ret
  exact ⟨by rw [g.out]; rfl, j⟩
theorem AfP (M T O F : Nat) (e1 e2 e3 : Int) (w : World) (S S2 : World → Prop) [stS : St S] (hS : S w) (hs : ∀ W, S W → Row W M 164 #[.func (.func 131) #[] #[.pointer (some ⟨T, 0, none⟩)], .func (.func 133) #[] #[.pointer (some ⟨T, 0, none⟩), .pointer (some ⟨O, 0, none⟩)], .func (.func 135) #[] #[.pointer (some ⟨F, 0, none⟩)]] ∧ S2 W) (hlo : ∀ W, S W → Below w.heap.size w W)
 (h2 : ∀ W, S2 W → Calls Tryz.prog 131 #[.pointer (some ⟨T, 0, none⟩)] W fun e W' => e = .returned (.int .i64 e1) ∧ Below W.heap.size W W')
 (h3 : ∀ W, S2 W → Calls Tryz.prog 133 #[.pointer (some ⟨T, 0, none⟩), .pointer (some ⟨O, 0, none⟩)] W fun e W' => e = .returned (.int .i64 e2) ∧ Below W.heap.size W W')
 (h4 : ∀ W, S2 W → Calls Tryz.prog 135 #[.pointer (some ⟨F, 0, none⟩)] W fun e W' => e = .returned (.int .i64 e3) ∧ Below W.heap.size W W') :
 Calls Tryz.prog 130 #[.slice (some ⟨M, 0, none⟩) 3 3] w fun e w' => e = .returned (.int .i64 (orL [e1, e2, e3])) ∧ Below w.heap.size w w' := by
 have z := Lh h2;have H3 := Lh h3;have H4 := Lh h4;have s := Lh hs;have m := Lh hlo;clear h2 h3 h4 hs hlo;go_enter Tryz.func130, Tryz.ntmps130
 go_wp2
 go_loopw [8] (fun i wr => ∃ k : Nat, i = .int .i64 (k : Int) ∧ k ≤ 3 ∧ Hid (∀ j : Nat, j < k → ([e1, e2, e3] : List Int)[j]? = some 0) ∧ S wr) (fun i _ => 3 - (intOf i).toNat)
 case atStart => exact ⟨0, rfl, Nat.zero_le _, Lh (fun j x => by omega), hS⟩
 case round =>
  clear hS;obtain ⟨k, rfl, hk, n, hS⟩ := hrel;have y : k = 0 ∨ k = 1 ∨ k = 2 ∨ k = 3 := by omega
  clear hk;rcases y with rfl | rfl | rfl | rfl
  · skip;have c := (s.out _ hS).1;have t := c.cellv (i := 0) (v := .func (.func 131) #[] #[.pointer (some ⟨T, 0, none⟩)]) rfl;have o := Lh (z.out wr ((s.out _ hS).2));clear c;go_wp2_with fail
    refine o.out.mono ?_;rintro e w' ⟨rfl, p⟩;replace hS := stS.go hS p;clear t o p;by_cases d : e1 = 0
    · have h : (e1 != 0) = false := by simp [d]
      have g : Hid (∀ j : Nat, j < 0 + 1 → ([e1, e2, e3] : List Int)[j]? = some 0) := fun j x => by
       by_cases l : j < 0
       · exact n.out j l
       · obtain rfl : j = 0 := by omega
         simp [d]
      clear d;go_wp2_with fail
      go_roundw
      case rel => exact ⟨0 + 1, by go_num, by omega, g, hS⟩
      case measure => simp [intOf]
    · have h : (e1 != 0) = true := by simpa using d
      have r : Hid (orL [e1, e2, e3] = e1) := by
       show _ = _;simp [orL, d]
      clear d;go_wp2_with fail
      go_ret
      exact ⟨by rw [r.out]; rfl, m.out _ hS⟩
  · skip;have c := (s.out _ hS).1;have t := c.cellv (i := 1) (v := .func (.func 133) #[] #[.pointer (some ⟨T, 0, none⟩), .pointer (some ⟨O, 0, none⟩)]) rfl;have o := Lh (H3.out wr ((s.out _ hS).2));clear c;go_wp2_with fail
    refine o.out.mono ?_;rintro e w' ⟨rfl, p⟩;replace hS := stS.go hS p;clear t o p;by_cases d : e2 = 0
    · have h : (e2 != 0) = false := by simp [d]
      have g : Hid (∀ j : Nat, j < 1 + 1 → ([e1, e2, e3] : List Int)[j]? = some 0) := fun j x => by
       by_cases l : j < 1
       · exact n.out j l
       · obtain rfl : j = 1 := by omega
         simp [d]
      clear d;go_wp2_with fail
      go_roundw
      case rel => exact ⟨1 + 1, by go_num, by omega, g, hS⟩
      case measure => simp [intOf]
    · have h : (e2 != 0) = true := by simpa using d
      have r : Hid (orL [e1, e2, e3] = e2) := by
       show _ = _;have q := n.out 0 (by omega); simp at q; simp [orL, q, d]
      clear d;go_wp2_with fail
      go_ret
      exact ⟨by rw [r.out]; rfl, m.out _ hS⟩
  · skip;have c := (s.out _ hS).1;have t := c.cellv (i := 2) (v := .func (.func 135) #[] #[.pointer (some ⟨F, 0, none⟩)]) rfl;have o := Lh (H4.out wr ((s.out _ hS).2));clear c;go_wp2_with fail
    refine o.out.mono ?_;rintro e w' ⟨rfl, p⟩;replace hS := stS.go hS p;clear t o p;by_cases d : e3 = 0
    · have h : (e3 != 0) = false := by simp [d]
      have g : Hid (∀ j : Nat, j < 2 + 1 → ([e1, e2, e3] : List Int)[j]? = some 0) := fun j x => by
       by_cases l : j < 2
       · exact n.out j l
       · obtain rfl : j = 2 := by omega
         simp [d]
      clear d;go_wp2_with fail
      go_roundw
      case rel => exact ⟨2 + 1, by go_num, by omega, g, hS⟩
      case measure => simp [intOf]
    · have h : (e3 != 0) = true := by simpa using d
      have r : Hid (orL [e1, e2, e3] = e3) := by
       show _ = _;have q := n.out 0 (by omega); have u := n.out 1 (by omega); simp at q u; simp [orL, q, u, d]
      clear d;go_wp2_with fail
      go_ret
      exact ⟨by rw [r.out]; rfl, m.out _ hS⟩
  · have r : Hid (orL [e1, e2, e3] = 0) := by
     show _ = _;have q := n.out 0 (by omega);have u := n.out 1 (by omega);have h2 := n.out 2 (by omega);simp at q u h2;simp [orL, q, u, h2]
    go_wp2
    go_ret
    exact ⟨by rw [r.out]; rfl, m.out _ hS⟩
theorem Agt (params fuel : Int) (l : List IntsV) : orL [J6 (decide (1 ≤ l.length ∧ l.length ≤ 20)) 18, J6 (!l.any fun x => (x.l.length : Int) != params) 18, J6 (decide (1 ≤ fuel ∧ fuel ≤ 10000)) 19] = JG params (l.map IntsV.l) fuel := by
 unfold J6;by_cases g : (l.map IntsV.l).length < 1 ∨ 20 < (l.map IntsV.l).length
 · rw [AhT g];rw [LE] at g;have : ¬ (1 ≤ l.length ∧ l.length ≤ 20) := by omega
   simp [orL, this]
 · by_cases j : ∀ t ∈ l.map IntsV.l, (t.length : Int) = params
   · rw [AhV g j];rw [LE] at g;have h : 1 ≤ l.length ∧ l.length ≤ 20 := by omega
     have i : (l.any fun x => (x.l.length : Int) != params) = false := by
      rw [List.any_eq_false];intro x d;have := j x.l (LV d);simp [this]
     by_cases m : 1 ≤ fuel ∧ fuel ≤ 10000
     · have e : (if fuel < 1 ∨ 10000 < fuel then (19 : Int) else 0) = 0 := if_neg (by omega);rw [e]; simp [orL, h, i, m]
     · have e : (if fuel < 1 ∨ 10000 < fuel then (19 : Int) else 0) = 19 := if_pos (by omega);rw [e]; simp [orL, h, i, m]
   · have k : ∃ x ∈ l, ¬ (x.l.length : Int) = params := by
      refine Classical.byContradiction fun n => j fun t o => ?_
      obtain ⟨x, d, rfl⟩ := LM.1 o;exact Classical.byContradiction fun c => n ⟨x, d, c⟩
     obtain ⟨x, d, c⟩ := k;rw [AhU (LV d) c];rw [LE] at g;have h : 1 ≤ l.length ∧ l.length ≤ 20 := by omega
     have i : (l.any fun x => (x.l.length : Int) != params) = true := by
      rw [List.any_eq_true];exact ⟨x, d, by simpa using c⟩
     simp [orL, h, i]
theorem Aib (w : World) : (zeroValue 195).run Tryz.prog w = .ok .nilFunc w := by kernel_rfl
theorem AiH : (Tryz.prog.info? 164).map (fun i => (i.zero, i.size)) = some (some .nilFunc, 1) := by kernel_rfl
theorem Agu (params fuel : Int) (A : Option Addr) (cap : Nat) (l : List IntsV) (w : World) (hr : Rd w A (KC l)) (hl : l.length ≤ 1000000) :
 Calls Tryz.prog 68 #[.int .i64 params, .slice A l.length cap, .int .i64 fuel] w fun e w' => e = .returned (.int .i64 (JG params (l.map IntsV.l) fuel)) ∧ Below w.heap.size w w' := by
 have Hr := Lh hr;have Hl := Lh hl;clear hr hl;go_enter Tryz.func68, Tryz.ntmps68
 go_wp2_with (refine Qn _ _ rfl ?_)
 refine Stop.to ?_;refine Qe rfl 3 _ rfl #[.int .i64 params] rfl ?_;intro P Pw Ph o Pb;go_wp2_with (refine Qn _ _ rfl ?_)
 refine Stop.to ?_;refine Qe rfl 46 _ rfl #[.slice A l.length cap] rfl ?_;intro T Tw u Tr p;go_wp2_with (refine Qn _ _ rfl ?_)
 refine Stop.to ?_;refine Qe rfl 3 _ rfl #[.int .i64 fuel] rfl ?_;intro F Fw r Fr n;have g := (o.below p (Ld o.lt u)).below n (by have := o.lt; have := p.size; omega);have i := Tr.below n (Ld Tr.lt r);have d := Fr;have v := (Below.refl w.heap.size w).trans (Pb.mono Ph);have z := v.trans ((p.mono u).mono v.size);have b3 := z.trans ((n.mono r).mono z.size);clear o Tr Fr Pb p n Ph u r v z;go_wp2_with (refine QN _ rfl ?_)
 refine Stop.to ?_;refine Qk rfl 195 rfl _ _ (Aib _) rfl ?_;intro O Ow t Or Ob;go_wp2_with (refine Qs _ _ _ rfl ?_)
 refine Stop.to ?_;refine Qp rfl 195 _ _ rfl O 0 rfl (.func (.func 129) #[] #[.pointer (some ⟨P, 0, none⟩)]) rfl [.func (.func 129) #[] #[.pointer (some ⟨P, 0, none⟩)]] rfl 195 _ #[.func (.func 129) #[] #[.pointer (some ⟨P, 0, none⟩)]] Or (by kernel_rfl) (by show 0 + 1 ≤ 1; omega) (by simp [Value.oneCell']) rfl ?_;intro Ox m Oo;have k := (Ob.mono t).trans (Oo.below t);replace g := g.below k g.lt;replace i := i.below k i.lt;replace d := d.below k d.lt;have b4 := b3.trans (k.mono b3.size);clear Or Ob t Oo k b3;go_wp2_with (refine Zw _ _ _ rfl ?_)
 refine Stop.to ?_;refine Qv rfl 266 3 _ rfl 164 #[.func (.func 131) #[] #[.pointer (some ⟨T, 0, none⟩)], .func (.func 133) #[] #[.pointer (some ⟨T, 0, none⟩), .pointer (some ⟨O, 0, none⟩)], .func (.func 135) #[] #[.pointer (some ⟨F, 0, none⟩)]] (ZN Tryz.underlying266 AiH (by decide) (by decide) (by kernel_rfl)) ?_;intro M s Mh Mr Mb;have j := Mb.mono Mh;replace g := g.below j g.lt;replace i := i.below j i.lt;replace d := d.below j d.lt;replace m := m.below j m.lt;have q := b4.trans (j.mono b4.size)
 have c := AfP M T O F (J6 (decide (1 ≤ l.length ∧ l.length ≤ 20)) 18) (J6 (!l.any fun x => (x.l.length : Int) != params) 18) (J6 (decide (1 ≤ fuel ∧ fuel ≤ 10000)) 19) s
  (fun W => (Row W M 164 #[.func (.func 131) #[] #[.pointer (some ⟨T, 0, none⟩)], .func (.func 133) #[] #[.pointer (some ⟨T, 0, none⟩), .pointer (some ⟨O, 0, none⟩)], .func (.func 135) #[] #[.pointer (some ⟨F, 0, none⟩)]] ∧ (Rd W A (KC l) ∧ Row W T 46 #[.slice A l.length cap] ∧ Row W O 195 #[.func (.func 129) #[] #[.pointer (some ⟨P, 0, none⟩)]] ∧ Row W P 3 #[.int .i64 params] ∧ Row W F 3 #[.int .i64 fuel])) ∧ Below s.heap.size s W)
  (fun W => Rd W A (KC l) ∧ Row W T 46 #[.slice A l.length cap] ∧ Row W O 195 #[.func (.func 129) #[] #[.pointer (some ⟨P, 0, none⟩)]] ∧ Row W P 3 #[.int .i64 params] ∧ Row W F 3 #[.int .i64 fuel])
  ⟨⟨Mr, Hr.out.go q, i, m, g, d⟩, Below.refl _ _⟩ (fun W h => h.1) (fun W h => h.2)
  (fun W h => AhQ T A l.length cap W h.2.1) (fun W h => AhR T O P A cap l params W h.1 Hl.out h.2.1 h.2.2.1 h.2.2.2.1) (fun W h => AhS F fuel W h.2.2.2.2)
 rw [Agt] at c;have Hf := Lh c;clear c g i d m Mr Mb j Mh b4;go_wp2_with fail
 refine Hf.out.mono ?_;rintro e w9 ⟨rfl, b9⟩;have y := q.trans (b9.mono q.size);clear Hf b9 q;go_wp2_with fail
 go_ret
 exact ⟨rfl, y⟩
attribute [local go_sem] Oper.semAt_some
theorem MtOk.kx {X : Nat → Prop} {W W' : World} {x : MtV} (h : MtOk W x) (k : KpX X W W') (s : Qi x.m.d.path ≠ [] → ∀ ad, x.A = some ad → ¬ X ad.block) : MtOk W' x := ⟨k.rd h.rd s, h.len, h.nil, h.dig⟩
end Go.Proofs.YtdcmppdhdcjpfaaGreat
namespace Go.Proofs.YtdcmppdhdcjpfaaGreat
open Go.RowKit Go.Deep
def MtT (W : World) (x : MtV) : Prop := MtOk W x ∧ IntB W x.A
theorem MtT.same {A B : World} {x : MtV} (h : MtT A x) (hb : ∀ (a : Addr) (cs : Array Value), x.A = some a → Row A a.block 3 cs → Row B a.block 3 cs) : MtT B x :=
 ⟨⟨fun j u hj => by
  obtain ⟨a, e, hc⟩ := h.1.rd j u hj
  obtain ⟨cs, hr⟩ := h.2 a e
  exact ⟨a, e, (World.cell?_of_block (by rw [Jo]; exact (hb a cs e hr).trans (Eq.symm hr))).trans hc⟩, h.1.len, h.1.nil, h.1.dig⟩, fun a e => by
  obtain ⟨cs, hr⟩ := h.2 a e
  exact ⟨cs, hb a cs e hr⟩⟩
theorem MtT.go {A B : World} {x : MtV} (h : MtT A x) (b : Below A.heap.size A B) : MtT B x := h.same fun _ _ _ hr => hr.below b hr.lt
theorem MtT.abide {W W' : World} {x : MtV} {row : Option Nat} {q : Nat → Prop} (h : MtT W x) (hg : W.grownBy W' row) (hr : ∀ r, row = some r → False ∨ (q r ∧ ∃ o : Obj, W.heap[r]? = some o ∧ o.isCells = false)) : MtT W' x := h.same fun _ _ _ k => k.abide hg hr
theorem MtT.own {W W' : World} {x : MtV} {lim n : Nat} {v : Value} {xs : List Value} (h : MtT W x) (hown : W.ownsRow lim 54 8 v n xs) (hg : W.grownBy W' v.ownBlock) : MtT W' x := h.same fun _ _ _ k => k.grown hg (Qz hown k (by decide))
theorem MtT.only {W W' : World} {x : MtV} {g : Nat} {t : TypeId} {cs : Array Value} (h : MtT W x) (hr : Row W g t cs) (ht : t ≠ 3) (o : Only g W W') : MtT W' x := h.same fun a cs' _ k => k.only o (fun e => by
 have h1 : W.heap[g]? = some (.cells cs' 3 (0, 0)) := by rw [← e]; exact k
 rw [show W.heap[g]? = some (.cells cs t (0, 0)) from hr] at h1
 injection h1 with h1; injection h1 with _ h1; exact ht h1)
end Go.Proofs.YtdcmppdhdcjpfaaGreat
namespace Go.Proofs.YtdcmppdhdcjpfaaGreat
open Go.ChangeShapes Go.WideShapes Go.RowKit Go.Deep
theorem Acd : Tryz.prog.cellsOf 35 = 3 := by kernel_rfl
structure DlRaw (W : World) (x : DlV) : Prop where
 rd : Rd W x.A (Qi x.d.path)
 len : x.d.path.length ≤ x.cap
 cap : x.cap ≤ maxLen
 nil : x.A = none → x.cap = 0
 all : ∀ n ∈ x.d.path, InI n
 op : InI x.d.op
 n : InI x.d.n
theorem DlRaw.go {W W' : World} {x : DlV} (h : DlRaw W x) (b : Below W.heap.size W W') : DlRaw W' x := ⟨h.rd.go b, h.len, h.cap, h.nil, h.all, h.op, h.n⟩
instance St.dlraw {x : DlV} : St (fun W => DlRaw W x) := ⟨fun h b => h.go b⟩
theorem DlRaw.none {W : World} {x : DlV} (h : DlRaw W x) (e : x.A = none) : x.d.path = [] := Lv (by have := h.nil e; have := h.len; omega)
theorem DlRaw.ok {W : World} {x : DlV} (h : DlRaw W x) (hl : x.d.path.length ≤ 1000000) : DlOk W x := ⟨h.rd, hl⟩
section
variable {H : Type} {enc : TypeId × Value → H} {w : World} {base : Nat} {spare : Nat → Bool} {held : Bool}
theorem Ada {fuel : Nat} {cs : List Value} {x : DataW H × List MemPlace} (h : DataW.trod enc Tryz.prog w base spare held fuel 35 cs = some x) : ∃ x : DlV, DlRaw w x ∧ cs = x.cells.toList := by
 obtain ⟨q, n, e⟩ := YU Tryz.underlying35 h;have g : cs.length = 3 := q.trans Acd
 match cs, g with
 | [a, b, c], _ =>
  obtain ⟨_, m⟩ := e 0 _ rfl;obtain ⟨_, o⟩ := e 1 _ rfl;obtain ⟨_, p⟩ := e 2 _ rfl;obtain ⟨r, d, i⟩ := YP m;obtain ⟨s, j, u⟩ := XC Tryz.underlying3 o;obtain ⟨t, k, v⟩ := XC Tryz.underlying3 p;simp [UE, VG] at i j k;exact ⟨⟨r.addr, r.cap, ⟨r.l, s, t⟩⟩, ⟨d.reads, d.len, d.cap, d.nil, d.all, u, v⟩, by rw [i, j, k]; rfl⟩
theorem Adc {fuel : Nat} {cs : List Value} {x : DataW H × List MemPlace} (h : DataW.trod enc Tryz.prog w base spare held fuel 46 cs = some x) :
 ∃ (A : Option Addr) (cap : Nat) (l : List IntsV), cs = [.slice A l.length cap] ∧ l.length ≤ cap ∧ cap ≤ maxLen ∧ (A = none → cap = 0) ∧ Rd w A (KC l) ∧ ∀ e ∈ l, e.ok w := by
 obtain ⟨A, cap, i, rfl, d, j, o, p, k, m⟩ := UL Tryz.underlying46 h;obtain ⟨l, rfl, c⟩ := Up (fun x : IntsV => [x.val]) (fun x => x.ok w) i (fun t g => by obtain ⟨n, y, s⟩ := m t g; obtain ⟨r, q, e⟩ := YP s; exact ⟨r, e, q⟩);rw [LE] at d;refine ⟨A, cap, l, by rw [LE], d, j, o, ?_, c⟩
 rw [show KC l = (l.map fun x : IntsV => [x.val]).flatten from by
  clear d j o p k m c h
  induction l with
  | nil => rfl
  | cons x l ih => simp only [KC, LD, List.flatten_cons, List.singleton_append] at ih ⊢; rw [← ih]]
 exact k
theorem Aes {r : Go.Reach} {b0 : Nat} {v : Value} {d : DataW H} {p : List MemPlace} (hv : Value.okWide Tryz.prog w r b0 35 v) (h : DataW.Trod enc Tryz.prog w base spare held 35 v d p) : ∃ x : DlV, DlRaw w x ∧ v = .agg x.cells := by
 obtain ⟨i, rfl, c, x, e⟩ := Adt Tryz.underlying35 hv h;obtain ⟨y, g, rfl⟩ := Ada e;exact ⟨y, g, rfl⟩
end
end Go.Proofs.YtdcmppdhdcjpfaaGreat
namespace Go.Proofs.YtdcmppdhdcjpfaaGreat
open Go.RowKit Go.Deep
def bodyE : List Nd := [⟨20, 1⟩, ⟨25, 0⟩, ⟨3, 0⟩]
def treeE : Tr := .node ⟨20, 1⟩ [.node ⟨25, 0⟩ [.node ⟨3, 0⟩ []]]
def pE (g1 g2 : Nat) : PgV := ⟨1, some ⟨g1, 0, none⟩, 1, [0], some ⟨g2, 0, none⟩, 3, bodyE⟩
theorem JV {W : World} {g : Nat} {t : TypeId} {cs : List Value} (h : Row W g t cs.toArray) : Rd W (some ⟨g, 0, none⟩) cs := Kq h
theorem AkE {g1 g2 : Nat} {W : World} (r1 : Row W g1 3 (Qi [0]).toArray) (r2 : Row W g2 85 (bodyE.flatMap Nd.cells).toArray) : (pE g1 g2).ok W :=
 ⟨by unfold InI pE; dsimp only; omega, by simp [pE], by unfold maxLen; simp [pE], fun h => (by cases h), JV r1, by simp [pE, InI], by simp [pE, bodyE], by unfold maxLen; simp [pE], fun h => (by cases h), JV r2, by simp [pE, bodyE, InI]⟩
theorem E1 : treeE.fits := by
 refine .mk _ _ (by rfl) (fun k c => ?_);rw [Lp.1 c];refine .mk _ _ (by rfl) (fun k c => ?_);rw [Lp.1 c];exact .mk _ _ (by rfl) (fun k c => by simp at c)
theorem Aku (g1 g2 : Nat) : Good (pE g1 g2) treeE := ⟨⟨E1, [], by rfl⟩, by rfl, by show J8 1 [0]; decide, rfl, by show ofT [0] treeE = 2; decide +kernel⟩
theorem Ea (g1 g2 : Nat) : Fine (pE g1 g2) treeE := ⟨Aku g1 g2, by simp [pE, bodyE], by show ∀ x ∈ bodyE, ¬ Qx x < 0; decide, by decide +kernel⟩
theorem XM : (Tryz.prog.info? 3).map (fun i => (i.zero, i.size)) = some (some (.int .i64 0), 1) := by kernel_rfl
theorem AiI : (Tryz.prog.info? 85).map (fun i => (i.zero, i.size)) = some (some (.agg #[.int .i64 0, .int .i64 0]), 2) := by kernel_rfl
theorem Aid {w : World} : (zeroValue 25).run Tryz.prog w = .ok (.agg #[.int .i64 0, .slice none 0 0, .slice none 0 0]) w := by kernel_rfl
theorem Age (A B : Option Addr) (c d : Nat) (l : List Nd) (π : List Int) (w : World) (hr : Rd w A (l.flatMap Nd.cells)) (hl : l.length ≤ 1000) (hp : Rd w B (Qi π)) (hlp : π.length ≤ 1000000) :
 Calls Tryz.prog 116 #[.slice A l.length c, .slice B π.length d] w fun e w' => e = .returned (.int .i64 (KV l π)) ∧ Below w.heap.size w w' := by
 obtain ⟨S, m⟩ : ∃ S, S = (fun W => Rd W A (l.flatMap Nd.cells) ∧ Rd W B (Qi π) ∧ Below w.heap.size w W) := ⟨_, rfl⟩;have y : St S := by rw [m]; infer_instance
 have T0 : Hid (∀ W, S W → Rd W A (l.flatMap Nd.cells)) := by show ∀ W, _; rw [m]; exact fun W h => h.1
 have T1 : Hid (∀ W, S W → Rd W B (Qi π)) := by show ∀ W, _; rw [m]; exact fun W h => h.2.1
 have z : Hid (∀ W, S W → Below w.heap.size w W) := by show ∀ W, _; rw [m]; exact fun W h => h.2.2
 have g : S w := by rw [m]; exact ⟨hr, hp, Below.refl _ _⟩
 have He := Lh (Jq A c l (0 : Int) w hr hl);have Hl := Lh hl;have ak : (l.length : Int) ≤ 1000 := by omega
 have al : (π.length : Int) ≤ 1000000 := by omega
 clear m hr hp hl hlp;go_enter Tryz.func116, Tryz.ntmps116
 go_wp2_with fail
 go_step3
 go_wp2_with fail
 refine He.out.mono ?_;rintro e w1 ⟨rfl, b1⟩;replace g := y.go g b1;clear He b1;by_cases o : endZ l 0 = (l.length : Int);rotate_left
 · have af : (endZ l 0 != (l.length : Int)) = true := by simpa using o
   have t : KV l π = -1 := if_neg o;have q := Lh t.symm;clear o t;go_wp2_with fail
   try rw [Exit.noGoto_ret]
   go_ret
   exact ⟨ZL q.out, z.out _ g⟩
 have af : (endZ l 0 != (l.length : Int)) = false := by simpa using o
 have t : KV l π = XD l 0 π := if_pos o;have q := Lh t;clear o t;go_wp2_with fail
 go_step3
 go_wp2_with fail
 go_loopw [5, 16] (fun ac i wr => ∃ (a : Int) (k : Nat), ac = .int .i64 a ∧ i = .int .i64 (k : Int) ∧ k ≤ π.length ∧ Hid (KV l π = XD l a (π.drop k)) ∧ S wr) (fun _ i _ => π.length - (intOf i).toNat)
 case atStart => exact ⟨0, 0, rfl, by simp, Nat.zero_le _, q.out, g⟩
 case round =>
  clear g q;obtain ⟨a, k, rfl, rfl, ai, r, g⟩ := hrel;by_cases u : k < π.length;rotate_left
  · have ag : ¬ ((k : Int) < (π.length : Int)) := by omega
    obtain rfl : k = π.length := by omega
    have q : Hid (KV l π = a) := by have := r.out; rw [List.drop_length] at this; exact this
    clear u r;go_wp2_with fail
    try rw [Exit.noGoto_ret]
    go_ret
    exact ⟨ZL q.out.symm, z.out _ g⟩
  obtain ⟨i, hi⟩ : ∃ i, π[k]? = some i := ⟨_, Lb (by omega)⟩;obtain ⟨bd, ad, c0⟩ := Q8 (T1.out _ g) hi;subst ad;have aj : (k : Int) < (π.length : Int) := by omega
  have Hi := Lh hi;have p := Lh (Yc A c l a wr (T0.out _ g) Hl.out);clear hi u;go_wp2_with fail
  refine p.out.mono ?_;rintro e w2 ⟨v, rfl, s, b2⟩;obtain ⟨C, cc, rfl, x, -, -, -⟩ := XR s;replace g := y.go g b2;have aa := Lh x;clear p b2 s x c0;obtain ⟨n, hn⟩ : ∃ n, n = (kidsZ l a).length := ⟨_, rfl⟩;have Hn := Lh hn;rw [← hn];clear hn;by_cases h0 : i < 0
  · have q : Hid (KV l π = -1) := by rw [Hid, r.out]; exact Aa5 Hi.out (Or.inl h0)
    clear r;go_wp2_with fail
    try rw [Exit.noGoto_ret]
    go_ret
    exact ⟨ZL q.out.symm, z.out _ g⟩
  by_cases h1 : (n : Int) ≤ i
  · have q : Hid (KV l π = -1) := by rw [Hid, r.out]; exact Aa5 Hi.out (Or.inr (by rw [← Hn.out]; exact h1))
    clear r;go_wp2_with fail
    try rw [Exit.noGoto_ret]
    go_ret
    exact ⟨ZL q.out.symm, z.out _ g⟩
  obtain ⟨j, rfl⟩ : ∃ j : Nat, i = (j : Int) := ⟨i.toNat, by omega⟩;obtain ⟨b, hb⟩ : ∃ b, (kidsZ l a)[j]? = some b := ⟨_, Lb (by have := Hn.out; omega)⟩;obtain ⟨cd, ae, c2⟩ := Q8 aa.out hb;subst ae;have ab : Hid (KV l π = XD l b (π.drop (k + 1))) := by rw [Hid, r.out]; exact Ah5 Hi.out hb
  have ah : (j : Int) < (n : Int) := by omega
  clear r hb;go_wp2_with fail
  refine ⟨⟨b, k + 1, rfl, by simp, by omega, ab, g⟩, ?_⟩;simp only [intOf]; omega
end Go.Proofs.YtdcmppdhdcjpfaaGreat
