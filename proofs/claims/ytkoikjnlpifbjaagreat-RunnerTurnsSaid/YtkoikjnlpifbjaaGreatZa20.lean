/- Lemmas for RunnerTurnsP. -/
import Derived.Test.YtkoikjnlpifbjaaGreatZa1
import Derived.Test.YtkoikjnlpifbjaaGreatZa14
import Derived.Test.YtkoikjnlpifbjaaGreatZa13
import Derived.Test.YtkoikjnlpifbjaaGreatZa9
import Derived.Test.YtkoikjnlpifbjaaGreatZa11
import Derived.Test.YtkoikjnlpifbjaaGreatZa8
import Derived.Test.YtkoikjnlpifbjaaGreatZa5
import Derived.Test.YtkoikjnlpifbjaaGreatZa17
import Derived.Test.YtkoikjnlpifbjaaGreatZa19
import Derived.Test.YtkoikjnlpifbjaaGreatZa12
import Derived.Test.YtkoikjnlpifbjaaGreatZa15
import Derived.OrdersHeld
set_option linter.unusedVariables false
set_option linter.unusedSimpArgs false
set_option maxRecDepth 100000
set_option maxHeartbeats 16000000
namespace Go.Proofs.YtkoikjnlpifbjaaGreat
open Go.RowKit Go.Deep
theorem AhA {params fuel : Int} {ts : List (List Int)} (h : ts.length < 1 ∨ 20 < ts.length) : JB params ts fuel = 18 := by unfold JB; rw [if_pos h]
theorem AhB {params fuel : Int} {ts : List (List Int)} {l : List Int} (hl : l ∈ ts) (h : ¬ (l.length : Int) = params) : JB params ts fuel = 18 := by
 unfold JB;split
 · rfl
 · rw [if_neg (fun e => h (e l hl))]
theorem AhC {params fuel : Int} {ts : List (List Int)} (h : ¬ (ts.length < 1 ∨ 20 < ts.length)) (h2 : ∀ l ∈ ts, (l.length : Int) = params) : JB params ts fuel = if fuel < 1 ∨ 10000 < fuel then 19 else 0 := by unfold JB; rw [if_neg h, if_pos h2]
def JW (b : Bool) (e : Int) : Int := if b then 0 else e
theorem Jy (b : Bool) (n : Int) (w : World) : Calls Tryz.prog 66 #[.bool b, .int .i64 n] w fun e w' => e = .returned (.int .i64 (JW b n)) ∧ w = w' := by
 cases b
 all_goals
  go_enter Tryz.func66, Tryz.ntmps66
  go_wp2
  go_ret
  exact ⟨rfl, rfl⟩
theorem AiD (P : Nat) (params : Int) (x : IntsV) (w : World) (hr : Row w P 3 #[.int .i64 params]) : Calls Tryz.prog 63 #[x.val, .pointer (some ⟨P, 0, none⟩)] w fun e w' => e = .returned (.bool ((x.l.length : Int) != params)) ∧ Below w.heap.size w w' := by
 have c := hr.cellv (i := 0) (v := .int .i64 params) rfl;rw [show x.val = .slice x.addr x.l.length x.cap from rfl];go_enter Tryz.func63, Tryz.ntmps63
 go_wp2
 go_ret
 exact ⟨rfl, Below.refl _ _⟩
theorem AfG (P : Nat) (A : Option Addr) (cap : Nat) (l : List IntsV) (p : IntsV → Bool) (w : World) (S : World → Prop) [stS : St S] (hS : S w) (hrd : ∀ W, S W → Rd W A (ZN l)) (hlo : ∀ W, S W → Below w.heap.size w W)
 (hp : ∀ x ∈ l, ∀ W, S W → Calls Tryz.prog 63 #[.slice x.addr x.l.length x.cap, .pointer (some ⟨P, 0, none⟩)] W fun e W' => e = .returned (.bool (p x)) ∧ Below W.heap.size W W') (hl : l.length ≤ 1000000) :
 Calls Tryz.prog 106 #[.slice A l.length cap, .func (.func 63) #[] #[.pointer (some ⟨P, 0, none⟩)]] w fun e w' => e = .returned (.int .i64 (Acx p l)) ∧ Below w.heap.size w w' := by
 have z := Lh hp;have q := Lh hrd;have j := Lh hlo;have aa : (l.length : Int) ≤ 1000000 := by omega
 clear hp hrd hlo hl;go_enter Tryz.func106, Tryz.ntmps106
 go_wp2
 go_loopw [8] (fun i wr => ∃ k : Nat, i = .int .i64 (k : Int) ∧ k ≤ l.length ∧ Hid (∀ y ∈ l.take k, p y = false) ∧ S wr) (fun i _ => l.length - (intOf i).toNat)
 case atStart => exact ⟨0, rfl, Nat.zero_le _, Lh (fun x g => by simp at g), hS⟩
 case round =>
  clear hS;obtain ⟨k, rfl, hk, b, hS⟩ := hrel;by_cases d : k < l.length
  · obtain ⟨x, g⟩ : ∃ x, l[k]? = some x := ⟨_, La d⟩;obtain ⟨ad, s, n⟩ := Z4 (q.out _ hS) g;have h : Hid (wr.cell? (ad.add k) = some (.slice x.addr x.l.length x.cap)) := n;have o := Lh g;have c := Lh (z.out x (Lg g) wr hS);have v : (k : Int) < (l.length : Int) := by omega
    clear g d n;subst s;(have t := h.out); go_wp2_with fail; clear t;refine c.out.mono ?_;rintro e w' ⟨rfl, u⟩;replace hS := stS.go hS u;clear u c h;cases hs : p x
    · have m := Lh (Yd b.out o.out hs);clear hs o;go_wp2_with fail
      go_roundw
      case rel => exact ⟨k + 1, by go_num, by omega, m, hS⟩
      case measure => simp [intOf]; omega
    · have m := Lh (Acz b.out o.out hs);clear hs o;go_wp2_with fail
      go_ret
      exact ⟨by rw [m.out]; rfl, j.out _ hS⟩
  · obtain rfl : k = l.length := by omega
    have m := Lh (Ae1 (p := p) (l := l) (by have := b.out; rwa [LQ] at this));clear d hk;go_wp2
    go_ret
    exact ⟨by rw [m.out]; rfl, j.out _ hS⟩
theorem AdX (P : Nat) (A : Option Addr) (cap : Nat) (l : List IntsV) (p : IntsV → Bool) (w : World) (S : World → Prop) [stS : St S] (hS : S w) (hrd : ∀ W, S W → Rd W A (ZN l)) (hlo : ∀ W, S W → Below w.heap.size w W)
 (hp : ∀ x ∈ l, ∀ W, S W → Calls Tryz.prog 63 #[.slice x.addr x.l.length x.cap, .pointer (some ⟨P, 0, none⟩)] W fun e W' => e = .returned (.bool (p x)) ∧ Below W.heap.size W W') (hl : l.length ≤ 1000000) :
 Calls Tryz.prog 68 #[.slice A l.length cap, .func (.func 63) #[] #[.pointer (some ⟨P, 0, none⟩)]] w fun e w' => e = .returned (.bool (l.any p)) ∧ Below w.heap.size w w' := by
 have b := Lh (AfG P A cap l p w S hS hrd hlo hp hl);clear hp hrd hlo hl hS;go_enter Tryz.func68, Tryz.ntmps68
 go_wp2_with fail
 refine b.out.mono ?_;rintro e w' ⟨rfl, d⟩;have c := Lh (Acy p l);clear b;go_wp2_with fail
 go_ret
 exact ⟨Q4 c.out.symm, d⟩
theorem Ahx (T : Nat) (A : Option Addr) (n cap : Nat) (w : World) (hr : Row w T 26 #[.slice A n cap]) :
 Calls Tryz.prog 65 #[.pointer (some ⟨T, 0, none⟩)] w fun e w' => e = .returned (.int .i64 (JW (decide (1 ≤ n ∧ n ≤ 20)) 18)) ∧ Below w.heap.size w w' := by
 have c := hr.cellv (i := 0) (v := .slice A n cap) rfl;by_cases d : 1 ≤ n
 · by_cases h : n ≤ 20
   · have g : (1 : Int) ≤ (n : Int) := by omega
     have j : decide ((n : Int) ≤ 20) = true := by simp; omega
     have b : Hid (decide (1 ≤ n ∧ n ≤ 20) = true) := by show _ = _; simp [d, h]
     clear d h;go_enter Tryz.func65, Tryz.ntmps65
     go_wp2_with fail
     refine (Jy _ _ _).mono ?_;rintro e w' ⟨rfl, rfl⟩;go_wp2_with fail
     go_ret
     exact ⟨by rw [b.out]; rfl, Below.refl _ _⟩
   · have g : (1 : Int) ≤ (n : Int) := by omega
     have j : decide ((n : Int) ≤ 20) = false := by simp; omega
     have b : Hid (decide (1 ≤ n ∧ n ≤ 20) = false) := by show _ = _; simp [h]
     clear d h;go_enter Tryz.func65, Tryz.ntmps65
     go_wp2_with fail
     refine (Jy _ _ _).mono ?_;rintro e w' ⟨rfl, rfl⟩;go_wp2_with fail
     go_ret
     exact ⟨by rw [b.out]; rfl, Below.refl _ _⟩
 · have g : (n : Int) < 1 := by omega
   have b : Hid (decide (1 ≤ n ∧ n ≤ 20) = false) := by show _ = _; simp [d]
   clear d;go_enter Tryz.func65, Tryz.ntmps65
   go_wp2_with fail
   refine (Jy _ _ _).mono ?_;rintro e w' ⟨rfl, rfl⟩;go_wp2_with fail
   go_ret
   exact ⟨by rw [b.out]; rfl, Below.refl _ _⟩
theorem Ahz (F : Nat) (fuel : Int) (w : World) (hr : Row w F 3 #[.int .i64 fuel]) :
 Calls Tryz.prog 69 #[.pointer (some ⟨F, 0, none⟩)] w fun e w' => e = .returned (.int .i64 (JW (decide (1 ≤ fuel ∧ fuel ≤ 10000)) 19)) ∧ Below w.heap.size w w' := by
 have c := hr.cellv (i := 0) (v := .int .i64 fuel) rfl;by_cases g : 1 ≤ fuel
 · by_cases d : fuel ≤ 10000
   · have h : decide (fuel ≤ 10000) = true := by simp; omega
     have b : Hid (decide (1 ≤ fuel ∧ fuel ≤ 10000) = true) := by show _ = _; simp [g, d]
     clear d;go_enter Tryz.func69, Tryz.ntmps69
     go_wp2_with fail
     refine (Jy _ _ _).mono ?_;rintro e w' ⟨rfl, rfl⟩;go_wp2_with fail
     go_ret
     exact ⟨by rw [b.out]; rfl, Below.refl _ _⟩
   · have h : decide (fuel ≤ 10000) = false := by simp; omega
     have b : Hid (decide (1 ≤ fuel ∧ fuel ≤ 10000) = false) := by show _ = _; simp [d]
     clear d;go_enter Tryz.func69, Tryz.ntmps69
     go_wp2_with fail
     refine (Jy _ _ _).mono ?_;rintro e w' ⟨rfl, rfl⟩;go_wp2_with fail
     go_ret
     exact ⟨by rw [b.out]; rfl, Below.refl _ _⟩
 · have j : fuel < 1 := by omega
   have b : Hid (decide (1 ≤ fuel ∧ fuel ≤ 10000) = false) := by show _ = _; simp [g]
   clear g;go_enter Tryz.func69, Tryz.ntmps69
   go_wp2_with fail
   refine (Jy _ _ _).mono ?_;rintro e w' ⟨rfl, rfl⟩;go_wp2_with fail
   go_ret
   exact ⟨by rw [b.out]; rfl, Below.refl _ _⟩
theorem Ahy (T O P : Nat) (A : Option Addr) (cap : Nat) (l : List IntsV) (params : Int) (w : World) (hr : Rd w A (ZN l)) (hl : l.length ≤ 1000000) (rT : Row w T 26 #[.slice A l.length cap]) (rO : Row w O 128 #[.func (.func 63) #[] #[.pointer (some ⟨P, 0, none⟩)]]) (rP : Row w P 3 #[.int .i64 params]) :
 Calls Tryz.prog 67 #[.pointer (some ⟨T, 0, none⟩), .pointer (some ⟨O, 0, none⟩)] w fun e w' => e = .returned (.int .i64 (JW (!l.any fun x => (x.l.length : Int) != params) 18)) ∧ Below w.heap.size w w' := by
 have k := rT.cellv (i := 0) (v := .slice A l.length cap) rfl;have m := rO.cellv (i := 0) (v := .func (.func 63) #[] #[.pointer (some ⟨P, 0, none⟩)]) rfl;have c := Lh (AdX P A cap l (fun x => (x.l.length : Int) != params) w (fun W => (Rd W A (ZN l) ∧ Row W P 3 #[.int .i64 params]) ∧ Below w.heap.size w W) ⟨⟨hr, rP⟩, Below.refl _ _⟩ (fun W h => h.1.1) (fun W h => h.2) (fun x _ W h => AiD P params x W h.1.2) hl);clear rT rO rP hr hl;go_enter Tryz.func67, Tryz.ntmps67
 go_wp2_with fail
 refine c.out.mono ?_;rintro e n ⟨rfl, j⟩;clear c k m;generalize d : (l.any fun x => (x.l.length : Int) != params) = b;have g := Lh d;clear d;cases b
 all_goals
  go_wp2_with fail
  refine (Jy _ _ _).mono ?_
  rintro e w' ⟨rfl, rfl⟩
  go_wp2_with fail
  go_ret
  exact ⟨by rw [g.out]; rfl, j⟩
theorem AfC (M T O F : Nat) (e1 e2 e3 : Int) (w : World) (S S2 : World → Prop) [stS : St S] (hS : S w) (hs : ∀ W, S W → Row W M 103 #[.func (.func 65) #[] #[.pointer (some ⟨T, 0, none⟩)], .func (.func 67) #[] #[.pointer (some ⟨T, 0, none⟩), .pointer (some ⟨O, 0, none⟩)], .func (.func 69) #[] #[.pointer (some ⟨F, 0, none⟩)]] ∧ S2 W) (hlo : ∀ W, S W → Below w.heap.size w W)
 (h2 : ∀ W, S2 W → Calls Tryz.prog 65 #[.pointer (some ⟨T, 0, none⟩)] W fun e W' => e = .returned (.int .i64 e1) ∧ Below W.heap.size W W')
 (h3 : ∀ W, S2 W → Calls Tryz.prog 67 #[.pointer (some ⟨T, 0, none⟩), .pointer (some ⟨O, 0, none⟩)] W fun e W' => e = .returned (.int .i64 e2) ∧ Below W.heap.size W W')
 (h4 : ∀ W, S2 W → Calls Tryz.prog 69 #[.pointer (some ⟨F, 0, none⟩)] W fun e W' => e = .returned (.int .i64 e3) ∧ Below W.heap.size W W') :
 Calls Tryz.prog 64 #[.slice (some ⟨M, 0, none⟩) 3 3] w fun e w' => e = .returned (.int .i64 (orL [e1, e2, e3])) ∧ Below w.heap.size w w' := by
 have z := Lh h2;have H3 := Lh h3;have H4 := Lh h4;have s := Lh hs;have l := Lh hlo;clear h2 h3 h4 hs hlo;go_enter Tryz.func64, Tryz.ntmps64
 go_wp2
 go_loopw [8] (fun i wr => ∃ k : Nat, i = .int .i64 (k : Int) ∧ k ≤ 3 ∧ Hid (∀ j : Nat, j < k → ([e1, e2, e3] : List Int)[j]? = some 0) ∧ S wr) (fun i _ => 3 - (intOf i).toNat)
 case atStart => exact ⟨0, rfl, Nat.zero_le _, Lh (fun j x => by omega), hS⟩
 case round =>
  clear hS;obtain ⟨k, rfl, hk, m, hS⟩ := hrel;have y : k = 0 ∨ k = 1 ∨ k = 2 ∨ k = 3 := by omega
  clear hk;rcases y with rfl | rfl | rfl | rfl
  · skip;have b := (s.out _ hS).1;have t := b.cellv (i := 0) (v := .func (.func 65) #[] #[.pointer (some ⟨T, 0, none⟩)]) rfl;have n := Lh (z.out wr ((s.out _ hS).2));clear b;go_wp2_with fail
    refine n.out.mono ?_;rintro e w' ⟨rfl, o⟩;replace hS := stS.go hS o;clear t n o;by_cases c : e1 = 0
    · have g : (e1 != 0) = false := by simp [c]
      have d : Hid (∀ j : Nat, j < 0 + 1 → ([e1, e2, e3] : List Int)[j]? = some 0) := fun j x => by
       by_cases h : j < 0
       · exact m.out j h
       · obtain rfl : j = 0 := by omega
         simp [c]
      clear c;go_wp2_with fail
      go_roundw
      case rel => exact ⟨0 + 1, by go_num, by omega, d, hS⟩
      case measure => simp [intOf]
    · have g : (e1 != 0) = true := by simpa using c
      have q : Hid (orL [e1, e2, e3] = e1) := by
       show _ = _;simp [orL, c]
      clear c;go_wp2_with fail
      go_ret
      exact ⟨by rw [q.out]; rfl, l.out _ hS⟩
  · skip;have b := (s.out _ hS).1;have t := b.cellv (i := 1) (v := .func (.func 67) #[] #[.pointer (some ⟨T, 0, none⟩), .pointer (some ⟨O, 0, none⟩)]) rfl;have n := Lh (H3.out wr ((s.out _ hS).2));clear b;go_wp2_with fail
    refine n.out.mono ?_;rintro e w' ⟨rfl, o⟩;replace hS := stS.go hS o;clear t n o;by_cases c : e2 = 0
    · have g : (e2 != 0) = false := by simp [c]
      have d : Hid (∀ j : Nat, j < 1 + 1 → ([e1, e2, e3] : List Int)[j]? = some 0) := fun j x => by
       by_cases h : j < 1
       · exact m.out j h
       · obtain rfl : j = 1 := by omega
         simp [c]
      clear c;go_wp2_with fail
      go_roundw
      case rel => exact ⟨1 + 1, by go_num, by omega, d, hS⟩
      case measure => simp [intOf]
    · have g : (e2 != 0) = true := by simpa using c
      have q : Hid (orL [e1, e2, e3] = e2) := by
       show _ = _;have p := m.out 0 (by omega); simp at p; simp [orL, p, c]
      clear c;go_wp2_with fail
      go_ret
      exact ⟨by rw [q.out]; rfl, l.out _ hS⟩
  · skip;have b := (s.out _ hS).1;have t := b.cellv (i := 2) (v := .func (.func 69) #[] #[.pointer (some ⟨F, 0, none⟩)]) rfl;have n := Lh (H4.out wr ((s.out _ hS).2));clear b;go_wp2_with fail
    refine n.out.mono ?_;rintro e w' ⟨rfl, o⟩;replace hS := stS.go hS o;clear t n o;by_cases c : e3 = 0
    · have g : (e3 != 0) = false := by simp [c]
      have d : Hid (∀ j : Nat, j < 2 + 1 → ([e1, e2, e3] : List Int)[j]? = some 0) := fun j x => by
       by_cases h : j < 2
       · exact m.out j h
       · obtain rfl : j = 2 := by omega
         simp [c]
      clear c;go_wp2_with fail
      go_roundw
      case rel => exact ⟨2 + 1, by go_num, by omega, d, hS⟩
      case measure => simp [intOf]
    · have g : (e3 != 0) = true := by simpa using c
      have q : Hid (orL [e1, e2, e3] = e3) := by
       show _ = _;have p := m.out 0 (by omega); have u := m.out 1 (by omega); simp at p u; simp [orL, p, u, c]
      clear c;go_wp2_with fail
      go_ret
      exact ⟨by rw [q.out]; rfl, l.out _ hS⟩
  · have q : Hid (orL [e1, e2, e3] = 0) := by
     show _ = _;have p := m.out 0 (by omega);have u := m.out 1 (by omega);have h2 := m.out 2 (by omega);simp at p u h2;simp [orL, p, u, h2]
    go_wp2
    go_ret
    exact ⟨by rw [q.out]; rfl, l.out _ hS⟩
theorem Agb (params fuel : Int) (l : List IntsV) : orL [JW (decide (1 ≤ l.length ∧ l.length ≤ 20)) 18, JW (!l.any fun x => (x.l.length : Int) != params) 18, JW (decide (1 ≤ fuel ∧ fuel ≤ 10000)) 19] = JB params (l.map IntsV.l) fuel := by
 unfold JW;by_cases d : (l.map IntsV.l).length < 1 ∨ 20 < (l.map IntsV.l).length
 · rw [AhA d];rw [Lu] at d;have : ¬ (1 ≤ l.length ∧ l.length ≤ 20) := by omega
   simp [orL, this]
 · by_cases i : ∀ t ∈ l.map IntsV.l, (t.length : Int) = params
   · rw [AhC d i];rw [Lu] at d;have g : 1 ≤ l.length ∧ l.length ≤ 20 := by omega
     have h : (l.any fun x => (x.l.length : Int) != params) = false := by
      rw [List.any_eq_false];intro x c;have := i x.l (Nf c);simp [this]
     by_cases k : 1 ≤ fuel ∧ fuel ≤ 10000
     · have e : (if fuel < 1 ∨ 10000 < fuel then (19 : Int) else 0) = 0 := if_neg (by omega);rw [e]; simp [orL, g, h, k]
     · have e : (if fuel < 1 ∨ 10000 < fuel then (19 : Int) else 0) = 19 := if_pos (by omega);rw [e]; simp [orL, g, h, k]
   · have j : ∃ x ∈ l, ¬ (x.l.length : Int) = params := by
      refine Classical.byContradiction fun m => i fun t n => ?_
      obtain ⟨x, c, rfl⟩ := LO.1 n;exact Classical.byContradiction fun b => m ⟨x, c, b⟩
     obtain ⟨x, c, b⟩ := j;rw [AhB (Nf c) b];rw [Lu] at d;have g : 1 ≤ l.length ∧ l.length ≤ 20 := by omega
     have h : (l.any fun x => (x.l.length : Int) != params) = true := by
      rw [List.any_eq_true];exact ⟨x, c, by simpa using b⟩
     simp [orL, g, h]
theorem AhS (w : World) : (zeroValue 128).run Tryz.prog w = .ok .nilFunc w := by kernel_rfl
theorem Aim : (Tryz.prog.info? 103).map (fun i => (i.zero, i.size)) = some (some .nilFunc, 1) := by kernel_rfl
theorem Aa4 (params fuel : Int) (A : Option Addr) (cap : Nat) (l : List IntsV) (w : World) (hr : Rd w A (ZN l)) (hl : l.length ≤ 1000000) :
 Calls Tryz.prog 25 #[.int .i64 params, .slice A l.length cap, .int .i64 fuel] w fun e w' => e = .returned (.int .i64 (JB params (l.map IntsV.l) fuel)) ∧ Below w.heap.size w w' := by
 have Hr := Lh hr;have Hl := Lh hl;clear hr hl;go_enter Tryz.func25, Tryz.ntmps25
 go_wp2_with (refine Qm _ _ rfl ?_)
 refine Stop.to ?_;refine Qe rfl 3 _ rfl #[.int .i64 params] rfl ?_;intro P Pw Ph n Pb;go_wp2_with (refine Qm _ _ rfl ?_)
 refine Stop.to ?_;refine Qe rfl 26 _ rfl #[.slice A l.length cap] rfl ?_;intro T Tw u Tr o;go_wp2_with (refine Qm _ _ rfl ?_)
 refine Stop.to ?_;refine Qe rfl 3 _ rfl #[.int .i64 fuel] rfl ?_;intro F Fw q Fr m;have d := (n.below o (Le n.lt u)).below m (by have := n.lt; have := o.size; omega);have g := Tr.below m (Le Tr.lt q);have c := Fr;have v := (Below.refl w.heap.size w).trans (Pb.mono Ph);have z := v.trans ((o.mono u).mono v.size);have b3 := z.trans ((m.mono q).mono z.size);clear n Tr Fr Pb o m Ph u q v z;go_wp2_with (refine QS _ rfl ?_)
 refine Stop.to ?_;refine Qk rfl 128 rfl _ _ (AhS _) rfl ?_;intro O Ow t Or Ob;go_wp2_with (refine Qv _ _ _ rfl ?_)
 refine Stop.to ?_;refine Qq rfl 128 _ _ rfl O 0 rfl (.func (.func 63) #[] #[.pointer (some ⟨P, 0, none⟩)]) rfl [.func (.func 63) #[] #[.pointer (some ⟨P, 0, none⟩)]] rfl 128 _ #[.func (.func 63) #[] #[.pointer (some ⟨P, 0, none⟩)]] Or (by kernel_rfl) (by show 0 + 1 ≤ 1; omega) (by simp [Value.oneCell']) rfl ?_;intro Ox k Oo;have j := (Ob.mono t).trans (Oo.below t);replace d := d.below j d.lt;replace g := g.below j g.lt;replace c := c.below j c.lt;have b4 := b3.trans (j.mono b3.size);clear Or Ob t Oo j b3;go_wp2_with (refine ZC _ _ _ rfl ?_)
 refine Stop.to ?_;refine Qt rfl 174 3 _ rfl 103 #[.func (.func 65) #[] #[.pointer (some ⟨T, 0, none⟩)], .func (.func 67) #[] #[.pointer (some ⟨T, 0, none⟩), .pointer (some ⟨O, 0, none⟩)], .func (.func 69) #[] #[.pointer (some ⟨F, 0, none⟩)]] (Z2 Tryz.underlying174 Aim (by decide) (by decide) (by kernel_rfl)) ?_;intro M s Mh Mr Mb;have i := Mb.mono Mh;replace d := d.below i d.lt;replace g := g.below i g.lt;replace c := c.below i c.lt;replace k := k.below i k.lt;have p := b4.trans (i.mono b4.size)
 have b := AfC M T O F (JW (decide (1 ≤ l.length ∧ l.length ≤ 20)) 18) (JW (!l.any fun x => (x.l.length : Int) != params) 18) (JW (decide (1 ≤ fuel ∧ fuel ≤ 10000)) 19) s
  (fun W => (Row W M 103 #[.func (.func 65) #[] #[.pointer (some ⟨T, 0, none⟩)], .func (.func 67) #[] #[.pointer (some ⟨T, 0, none⟩), .pointer (some ⟨O, 0, none⟩)], .func (.func 69) #[] #[.pointer (some ⟨F, 0, none⟩)]] ∧ (Rd W A (ZN l) ∧ Row W T 26 #[.slice A l.length cap] ∧ Row W O 128 #[.func (.func 63) #[] #[.pointer (some ⟨P, 0, none⟩)]] ∧ Row W P 3 #[.int .i64 params] ∧ Row W F 3 #[.int .i64 fuel])) ∧ Below s.heap.size s W)
  (fun W => Rd W A (ZN l) ∧ Row W T 26 #[.slice A l.length cap] ∧ Row W O 128 #[.func (.func 63) #[] #[.pointer (some ⟨P, 0, none⟩)]] ∧ Row W P 3 #[.int .i64 params] ∧ Row W F 3 #[.int .i64 fuel])
  ⟨⟨Mr, Hr.out.go p, g, k, d, c⟩, Below.refl _ _⟩ (fun W h => h.1) (fun W h => h.2)
  (fun W h => Ahx T A l.length cap W h.2.1) (fun W h => Ahy T O P A cap l params W h.1 Hl.out h.2.1 h.2.2.1 h.2.2.2.1) (fun W h => Ahz F fuel W h.2.2.2.2)
 rw [Agb] at b;have Hf := Lh b;clear b d g c k Mr Mb i Mh b4;go_wp2_with fail
 refine Hf.out.mono ?_;rintro e w9 ⟨rfl, b9⟩;have y := p.trans (b9.mono p.size);clear Hf b9 p;go_wp2_with fail
 go_ret
 exact ⟨rfl, y⟩
theorem Acm {l : List Mt} {k : Nat} {x : Mt} (hx : l[k]? = some x) (v : Int) : Jn (l.take (k + 1)) v = Jn (l.take k) v + if x.verdict = v then 1 else 0 := by
 unfold Jn;rw [Lz, hx, N4];by_cases h : x.verdict = v <;> simp [h]
theorem UD (l : List Mt) (k : Nat) (v : Int) : 0 ≤ Jn (l.take k) v ∧ Jn (l.take k) v ≤ k := by
 unfold Jn;have b := N8 (fun m : Mt => m.verdict == v) (l.take k);have c : (l.take k).length ≤ k := List.length_take_le _ _;omega
theorem Ajt (a b c d : Value) : ZI #[a, b, c] 0 [d] = #[d, b, c] := rfl
theorem Aju (a b c d : Value) : ZI #[a, b, c] 1 [d] = #[a, d, c] := rfl
theorem Ajv (a b c d : Value) : ZI #[a, b, c] 2 [d] = #[a, b, d] := rfl
theorem Af7 (A : Option Addr) (cap : Nat) (l : List MtV) (w : World) (hr : Rd w A (J8 l)) (hl : l.length ≤ 1000000) :
 Calls Tryz.prog 32 #[.slice A l.length cap] w fun e w' => e = .returned (.agg (QG (l.map MtV.m)).cells) ∧ Below w.heap.size w w' := by
 have Hr := Lh hr;have ai : (l.length : Int) ≤ 1000000 := by omega
 clear hr hl;have zc := AdE;go_enter Tryz.func32, Tryz.ntmps32
 go_wp2_with (first | fail | (refine QS _ rfl ?_))
 refine Stop.to ?_;refine Qk rfl 36 rfl _ _ (E3 _) rfl ?_;intro R Rw Rh Rr Rb;go_wp2_with (first | fail | (refine QS _ rfl ?_))
 refine Stop.to ?_;refine Qk rfl 108 rfl _ _ (zc _) rfl ?_;intro C Cw Ch Cr Cb;have d := Rr.below Cb (Le Rr.lt Ch);have u : R ≠ C := by have := Rr.lt; omega
 have b1 := (Below.refl w.heap.size w).trans (Rb.mono Rh);have b2 := b1.trans ((Cb.mono Ch).mono b1.size);have hC : w.heap.size ≤ C := Lf b1.size Ch;have hR : w.heap.size ≤ R := Rh;clear Rr Rb Cb b1 zc Rh Ch;have c := Cr;clear Cr;go_wp2_with fail
 go_loopw [8] (fun i wr => ∃ k : Nat, i = .int .i64 (k : Int) ∧ k ≤ l.length ∧ Row wr R 36 #[.int .i64 0, .int .i64 0, .int .i64 0] ∧ Row wr C 108 (QG ((l.map MtV.m).take k)).cells ∧ Below w.heap.size w wr) (fun i _ => l.length - (intOf i).toNat)
 case atStart => exact ⟨0, rfl, Nat.zero_le _, d, c, b2⟩
 case round =>
  clear d c b2;obtain ⟨k, rfl, hk, d, c, b⟩ := hrel;by_cases y : k < l.length
  · obtain ⟨x, hx⟩ : ∃ x, l[k]? = some x := ⟨_, La y⟩;obtain ⟨ad, ac, ab⟩ := Ac0 (Hr.out.go b) hx;have hs := fun v => Acm (l := l.map MtV.m) (k := k) (x := x.m) (by simp [hx]) v
    have g := Lh (hs 0);have h := Lh (hs 1);have j := Lh (hs 2);have af := UD (l.map MtV.m) k 0;have ag := UD (l.map MtV.m) k 1;have ah := UD (l.map MtV.m) k 2;have ae : (k : Int) < (l.length : Int) := by omega
    have aa := Lh ab;clear hx y ab hs;subst ac;go_wp2_with (first | (refine QH rfl 54 _ rfl (ad.add (k * 8)) rfl x.cells _ (aa.out) Tryz.underlying54 rfl (by kernel_rfl) ?_) | (refine QS _ rfl ?_))
    refine Stop.to ?_;refine Qk rfl 54 rfl _ _ (AhU _) rfl ?_;intro G Gw Gh Gr Gb;go_wp2_with (refine Qv _ _ _ rfl ?_)
    refine Stop.to ?_;refine Ql rfl 54 _ _ rfl G x.cells.toArray rfl rfl 54 _ Gr (by kernel_rfl) rfl (Aei _) ?_;intro Gx Gs Go;have Gc := (Gb.mono Gh).trans (Go.below Gh);clear Gb Gr Go;replace d := d.below Gc d.lt;replace c := c.below Gc c.lt;replace b := b.trans (Gc.mono b.size);have o := Gs.cellv (i := 3) (v := .int .i64 x.m.verdict) rfl;clear aa Gc Gh;rw [show (QG ((l.map MtV.m).take k)).cells = #[.int .i64 (Jn ((l.map MtV.m).take k) 0), .int .i64 (Jn ((l.map MtV.m).take k) 1), .int .i64 (Jn ((l.map MtV.m).take k) 2)] from rfl] at c;generalize Jn ((l.map MtV.m).take k) 0 = n0 at *;generalize Jn ((l.map MtV.m).take k) 1 = n1 at *;generalize Jn ((l.map MtV.m).take k) 2 = n2 at *;by_cases h0 : x.m.verdict = 0
    · have t : Hid ((QG ((l.map MtV.m).take (k + 1))).cells = #[.int .i64 (n0 + 1), .int .i64 n1, .int .i64 n2]) := by
       show _ = _;unfold QG Sc.cells;simp only [g.out, h.out, j.out, h0];simp
      have n : x.m.verdict = 0 := h0;have c3 : Gx.cell? ⟨G, 3, none⟩ = some (.int .i64 0) := by rw [← n]; exact o
      have c4 : Gx.cell? ⟨C, 0, none⟩ = some (.int .i64 n0) := c.cellv (i := 0) rfl;clear h0 n o g h j Gs;go_wp2_with (refine Qv _ _ _ rfl ?_)
      refine Stop.to ?_;refine Qq rfl 3 _ _ rfl C 0 rfl (.int .i64 (n0 + 1)) (by first | rfl | (simp; done)) [.int .i64 (n0 + 1)] rfl 108 _ _ c (by kernel_rfl) (by simp) (by simp [Value.oneCell']) (Ajt _ _ _ _) ?_
      intro W9 z p;have q := b.trans (p.below hC);have s := d.only p u;clear p c d b c3 c4;go_wp2_with fail
      go_roundw
      case rel => exact ⟨k + 1, by go_num, by omega, s, by rw [t.out]; exact z, q⟩
      case measure => simp [intOf]; omega
    by_cases h1 : x.m.verdict = 1
    · have t : Hid ((QG ((l.map MtV.m).take (k + 1))).cells = #[.int .i64 n0, .int .i64 (n1 + 1), .int .i64 n2]) := by
       show _ = _;unfold QG Sc.cells;simp only [g.out, h.out, j.out, h1];simp
      have n : x.m.verdict = 1 := h1;have c3 : Gx.cell? ⟨G, 3, none⟩ = some (.int .i64 1) := by rw [← n]; exact o
      have c4 : Gx.cell? ⟨C, 1, none⟩ = some (.int .i64 n1) := c.cellv (i := 1) rfl;clear h1 n o g h j Gs;go_wp2_with (refine Qv _ _ _ rfl ?_)
      refine Stop.to ?_;refine Qq rfl 3 _ _ rfl C 1 rfl (.int .i64 (n1 + 1)) (by first | rfl | (simp; done)) [.int .i64 (n1 + 1)] rfl 108 _ _ c (by kernel_rfl) (by simp) (by simp [Value.oneCell']) (Aju _ _ _ _) ?_
      intro W9 z p;have q := b.trans (p.below hC);have s := d.only p u;clear p c d b c3 c4;go_wp2_with fail
      go_roundw
      case rel => exact ⟨k + 1, by go_num, by omega, s, by rw [t.out]; exact z, q⟩
      case measure => simp [intOf]; omega
    by_cases h2 : x.m.verdict = 2
    · have t : Hid ((QG ((l.map MtV.m).take (k + 1))).cells = #[.int .i64 n0, .int .i64 n1, .int .i64 (n2 + 1)]) := by
       show _ = _;unfold QG Sc.cells;simp only [g.out, h.out, j.out, h2];simp
      have n : x.m.verdict = 2 := h2;have c3 : Gx.cell? ⟨G, 3, none⟩ = some (.int .i64 2) := by rw [← n]; exact o
      have c4 : Gx.cell? ⟨C, 2, none⟩ = some (.int .i64 n2) := c.cellv (i := 2) rfl;clear h2 n o g h j Gs;go_wp2_with (refine Qv _ _ _ rfl ?_)
      refine Stop.to ?_;refine Qq rfl 3 _ _ rfl C 2 rfl (.int .i64 (n2 + 1)) (by first | rfl | (simp; done)) [.int .i64 (n2 + 1)] rfl 108 _ _ c (by kernel_rfl) (by simp) (by simp [Value.oneCell']) (Ajv _ _ _ _) ?_
      intro W9 z p;have q := b.trans (p.below hC);have s := d.only p u;clear p c d b c3 c4;go_wp2_with fail
      go_roundw
      case rel => exact ⟨k + 1, by go_num, by omega, s, by rw [t.out]; exact z, q⟩
      case measure => simp [intOf]; omega
    have t : Hid ((QG ((l.map MtV.m).take (k + 1))).cells = #[.int .i64 n0, .int .i64 n1, .int .i64 n2]) := by
     show _ = _;unfold QG Sc.cells;simp only [g.out, h.out, j.out, if_neg h0, if_neg h1, if_neg h2];simp
    clear g h j Gs;by_cases h3 : x.m.verdict < 0
    · clear h0 h1 h2;go_wp2_with fail
      go_roundw
      case rel => exact ⟨k + 1, by go_num, by omega, d, by rw [t.out]; exact c, b⟩
      case measure => simp [intOf]; omega
    · have h4 : 0 ≤ x.m.verdict := by omega
      have h5 : 3 ≤ x.m.verdict := by omega
      clear h0 h1 h2 h3;go_wp2_with fail
      go_roundw
      case rel => exact ⟨k + 1, by go_num, by omega, d, by rw [t.out]; exact c, b⟩
      case measure => simp [intOf]; omega
  · obtain rfl : k = l.length := by omega
    rw [show (l.map MtV.m).take l.length = l.map MtV.m from Lx (by simp)] at c;have Hb := Lh (AeB (QG (l.map MtV.m)) wr);clear hk y;go_wp2_with (refine wpList_load_row rfl 108 _ rfl C rfl 108 (QG (l.map MtV.m)).cells (0, 0) _ c Tryz.underlying108 rfl (by kernel_rfl) ?_)
    refine Hb.out.mono ?_;rintro e w1 ⟨rfl, b3⟩;replace d := d.below b3 d.lt;replace b := b.trans (b3.mono b.size);clear b3 Hb c;go_wp2_with (refine Qv _ _ _ rfl ?_)
    refine Stop.to ?_;refine Ql rfl 36 _ _ rfl R (QG (l.map MtV.m)).cells rfl rfl 36 _ d (by kernel_rfl) rfl (by simp [Value.oneCell', Sc.cells]) ?_;intro W9 z p;go_wp2_with fail
    refine bodyPost_ret (results_cell_row Tryz.results32 _ _ R 36 _ (0, 0) _ rfl z Tryz.underlying36 rfl (by kernel_rfl)) rfl ?_;exact ⟨rfl, b.trans (p.below hR)⟩
end Go.Proofs.YtkoikjnlpifbjaaGreat
namespace Go.Proofs.YtkoikjnlpifbjaaGreat
open Go.RowKit
section
variable {P : Program} {ops : Array Oper} {Q : Exit → Act → World → Prop} {md : Region.Mode} {S : World → Prop} {last : Nat}
def YieldsC (P : Program) (ops : Array Oper) (S : World → Prop) (o : Oper) (v : Value) (a : Act) : Prop :=
 (Region.wanted o (yielded ops a.tmps) = true ∧ ∀ w, S w → (execOp a.eval o).run P w = .ok (.value v) w ∨ ∃ f args, (execOp a.eval o).run P w = .ok (.enter f args) w ∧ Calls P f args w fun e w' => e = .returned v ∧ w' = w) ∨
 (Region.wanted o (yielded ops a.tmps) = false ∧ v = undef)
theorem QI {o : Oper} {v : Value} {a : Act} (h : YieldsIf P ops S o v a) : YieldsC P ops S o v a := h.imp (fun ⟨hw, hv⟩ => ⟨hw, fun w hS => .inl (hv w hS)⟩) id
theorem YieldsC.wpOp {i : Nat} {o : Oper} {v : Value} {a : Act} (hi : ops[i]? = some o) (hy : YieldsC P ops S o v a) {K : Act → World → Prop} {w : World} (hS : S w) (h : K (a.put o.dst v) w) : wpOp P ops Q i K a w := by
 unfold Go.wpOp;simp only [hi];rcases hy with ⟨c, b⟩ | ⟨c, rfl⟩
 · rw [if_pos c];refine .inl ?_;unfold Oper.wp;rcases b w hS with b | ⟨f, d, b, g⟩
   · rw [b]; exact h
   · rw [b];refine Calls.mono g fun e k j => ?_
     obtain ⟨rfl, rfl⟩ := j;exact h
 · rw [if_neg (by rw [c]; simp)]; exact h
theorem YieldsC.of_same {o : Oper} {v : Value} {a a' : Act} (hy : YieldsC P ops S o v a) (he : execOp a'.eval o = execOp a.eval o) (hw : Region.wanted o (yielded ops a'.tmps) = Region.wanted o (yielded ops a.tmps)) : YieldsC P ops S o v a' := by
 unfold YieldsC at *;rw [he, hw];exact hy
theorem Agg {j : Nat} {oi oj : Oper} {v : Value} (hj : ops[j]? = some oj) (hap : oi.apart ops oj = true)
 (hsi : ∀ cs b, oi.op ≠ .select cs b) (hsj : ∀ cs b, oj.op ≠ .select cs b)
 (hQ : ∀ c a w, Q (.panic c) (a.put oi.dst v) w → Q (.panic c) a w) {K : Act → World → Prop} {a : Act} {w : World}
 (hy : YieldsC P ops S oi v a) (h : wpOp P ops Q j K (a.put oi.dst v) w) :
 wpOp P ops Q j (fun a' w' => YieldsC P ops S oi v a' ∧ K (a'.put oi.dst v) w') a w := by
 obtain ⟨o, l, s⟩ := Oper.apart_spec hap
 have keep : ∀ (a : Act), YieldsC P ops S oi v a → ∀ u, YieldsC P ops S oi v (a.put oj.dst u) := fun a hy u =>
  hy.of_same (execOp_put oi hsi a oj.dst u s) (wanted_put oi a oj.dst u s)
 have k : ∀ d, YieldsC P ops S oi v { a with defers := d :: a.defers } := fun d => hy.of_same rfl rfl
 unfold wpOp at *;simp only [hj] at *;rw [wanted_put oj a oi.dst v o] at h;split
 · rename_i p;simp only [p, if_true] at h;rcases h with h | ⟨g, i⟩
   case inr => exact .inr ⟨by unfold Oper.asks at *; rw [execOp_put oj hsj a oi.dst v o] at g; exact g, i⟩
   refine .inl ?_;unfold Oper.wp at *;rw [execOp_put oj hsj a oi.dst v o] at h;generalize (execOp a.eval oj).run P w = r at *;cases r with
   | ok n w' =>
    cases n <;> simp only [Oper.upon] at h ⊢
    case value u => exact ⟨keep a hy u, by rw [← Act.put_comm a v u l]; exact h⟩
    case skip => exact ⟨keep a hy _, by rw [← Act.put_comm a v undef l]; exact h⟩
    case defer d =>
     refine ⟨keep _ (k d) _, ?_⟩;rw [← Act.put_comm _ v undef l, ← Act.put_defers];exact h
    case enter f args =>
     refine Calls.mono h fun e q m => ?_
     cases e with
     | returned u => exact ⟨keep a hy u, by rw [← Act.put_comm a v u l]; exact m⟩
     | panicked c => exact hQ _ _ _ m
     | outgrown => exact m
    case row row args => exact Rows.mono h fun u q m => ⟨keep a hy u, by rw [← Act.put_comm a v u l]; exact m⟩
   | halt x w' =>
    cases x <;> simp only [Oper.upon] at h ⊢
    case panic u => exact hQ _ _ _ h
 · rename_i p;simp only [p] at h;exact ⟨keep a hy _, by rw [← Act.put_comm a v undef l]; exact h⟩
def Xk (P : Program) (md : Region.Mode) (ops : Array Oper) (Q : Exit → Act → World → Prop) (S : World → Prop) (last : Nat) : Nat → Array Bool → Act → World → Prop
 | 0, listed, a, w => Region.ready md ops listed = [] ∧ Q .normal a w
 | fuel + 1, listed, a, w =>
  (Region.ready md ops listed = [] → Q .normal a w) ∧
  ∀ i ∈ Region.ready md ops listed, wpOp P ops Q i (fun a' w' => (i ≠ last → S w') ∧ Xk P md ops Q S last fuel (listed.setIfInBounds i true) a' w') a w
theorem EZ : ∀ (fuel : Nat) (listed : Array Bool) (a : Act) (w : World), Xk P md ops Q S last fuel listed a w → wpAny P md ops Q fuel listed a w
 | 0, _, _, _, h => h
 | fuel + 1, _, _, _, h => ⟨h.1, fun i hi => wpOp_mono (fun a' w' h' => EZ fuel _ a' w' h'.2) (h.2 i hi)⟩
theorem AbW {i : Nat} {oi : Oper} {v : Value} (hi : ops[i]? = some oi) (hsel : ∀ (j : Nat) (o : Oper) cs b, ops[j]? = some o → o.op ≠ .select cs b)
 (hil : i ≠ last) (hdep : ∀ o, ops[last]? = some o → ∃ e ∈ o.after, Region.binds md e = true ∧ e.on = i)
 (hQ : ∀ c a w, Q (.panic c) (a.put oi.dst v) w → Q (.panic c) a w) :
 ∀ (fuel : Nat) (listed : Array Bool) (a : Act) (w : World),
  (∀ j oj, ops[j]? = some oj → j ≠ i → listed.getD j true = false → (∀ e ∈ oj.after, Region.binds md e = true → e.on ≠ i) → oi.apart ops oj = true) →
  i ∈ Region.ready md ops listed → YieldsC P ops S oi v a → S w →
  Xk P md ops Q S last fuel (listed.setIfInBounds i true) (a.put oi.dst v) w → Xk P md ops Q S last (fuel + 1) listed a w := by
 intro fuel
 induction fuel with
 | zero =>
  intro listed a w _ t hy u H;refine ⟨fun h => (by rw [h] at t; cases t), fun j hj => ?_⟩;by_cases d : j = i
  · subst d; exact hy.wpOp hi u ⟨fun _ => u, H⟩
  · have := ready_mono hj d;rw [H.1] at this;cases this
 | succ fuel ih =>
  intro listed a w g t hy u H;refine ⟨fun h => (by rw [h] at t; cases t), fun j hj => ?_⟩;by_cases d : j = i
  · subst d; exact hy.wpOp hi u ⟨fun _ => u, H⟩
  · have q := H.2 j (ready_mono hj d);obtain ⟨n, oj, m, x⟩ := mem_ready.1 hj
    have p : ∀ e ∈ oj.after, Region.binds md e = true → e.on ≠ i := fun e he hb s => by
     have q := x e he hb;have h0 := (mem_ready.1 t).1;rw [s] at q;rcases Nat.lt_or_ge i listed.size with h' | h'
     · simp [h'] at h0 q; rw [h0] at q; cases q
     · simp [Ny h'] at q
    have z : j ≠ last := fun e => by
     subst e;obtain ⟨e, he, hb, s⟩ := hdep oj m;exact p e he hb s
    have h2 := Agg m (g j oj m d n p) (fun cs b => hsel i oi cs b hi) (fun cs b => hsel j oj cs b m) hQ hy q
    have l : ∀ k ok, ops[k]? = some ok → k ≠ i → (listed.setIfInBounds j true).getD k true = false →
     (∀ e ∈ ok.after, Region.binds md e = true → e.on ≠ i) → oi.apart ops ok = true := fun k ok hk ab aa ac => by
     refine g k ok hk ab ?_ ac;by_cases y : j = k
     · subst y; exact n
     · rw [getD_set_ne true y] at aa; exact aa
    refine wpOp_mono (fun a' w' h3 => ⟨fun _ => h3.2.1 z, ih (listed.setIfInBounds j true) a' w' l (ready_mono t (Ne.symm d)) h3.1 (h3.2.1 z) ?_⟩) h2;rw [NG _ _ d];exact h3.2.2
theorem Q2 {rs : List Nat} {fuel : Nat} {listed : Array Bool} {a : Act} {w : World} (hr : Region.ready md ops listed = rs) (hne : rs ≠ [])
 (h : ∀ i ∈ rs, wpOp P ops Q i (fun a' w' => (i ≠ last → S w') ∧ Xk P md ops Q S last fuel (listed.setIfInBounds i true) a' w') a w) : Xk P md ops Q S last (fuel + 1) listed a w :=
 ⟨fun h0 => absurd (hr ▸ h0) hne, hr ▸ h⟩
theorem Yi {listed : Array Bool} {a : Act} {w : World} (hr : Region.ready md ops listed = []) (h : Q .normal a w) : ∀ fuel, Xk P md ops Q S last fuel listed a w
 | 0 => ⟨hr, h⟩
 | _ + 1 => ⟨fun _ => h, by rw [hr]; simp⟩
end
def Ad8 (md : Region.Mode) (ops : Array Oper) (last i : Nat) : Bool := match ops[last]? with | some o => o.after.any (fun e => Region.binds md e && e.on == i) && (i != last) | none => false
theorem Z9 {P : Program} {md : Region.Mode} {l : List Oper} {Q : Exit → Act → World → Prop} {S : World → Prop} {last i : Nat} {oi : Oper} {rest : List Oper} {v : Value} {fuel : Nat} {listed : Array Bool} {a : Act} {w : World} (ho : l.drop i = oi :: rest)
 (hs : Region.noSelect l.toArray = true) (hf : Region.free md l.toArray listed i = true) (hr : (Region.ready md l.toArray listed).contains i = true) (hd : Ad8 md l.toArray last i = true)
 (hQ : ∀ c a w, Q (.panic c) (a.put oi.dst v) w → Q (.panic c) a w) (hy : YieldsC P l.toArray S oi v a) (hS : S w)
 (h : Xk P md l.toArray Q S last fuel (listed.setIfInBounds i true) (a.put oi.dst v) w) : Xk P md l.toArray Q S last (fuel + 1) listed a w := by
 have d : i ≠ last := fun e => by
  subst e;unfold Ad8 at hd;split at hd
  · simp at hd
  · cases hd
 refine AbW (Vm ho) (Region.noSelect_spec hs) d (fun o g => ?_) hQ fuel listed a w (Region.free_spec (Vm ho) hf) (by simpa using hr) hy hS h;unfold Ad8 at hd;rw [g] at hd;simp only [LU] at hd;obtain ⟨n, j, b⟩ := Array.any_eq_true.1 hd.1;simp only [LU, beq_iff_eq] at b;exact ⟨_, Array.getElem_mem j, b.1, b.2⟩
theorem Ya {P : Program} {last id : Nat} {Q : Exit → Act → World → Prop} {a : Act} {w : World} {l : List Oper} {S : World → Prop} (hm : P.follows .mixedOrders = true) (h : Xk P .any l.toArray Q S last l.toArray.size (Array.replicate l.toArray.size false) a w.drew) : (Code.region id l.toArray true).wp P Q a w :=
 wp_region_any hm (EZ _ _ _ _ h)
end Go.Proofs.YtkoikjnlpifbjaaGreat
namespace Go.Proofs.YtkoikjnlpifbjaaGreat
open Go.RowKit Go.Deep
attribute [local go_sem] Oper.semAt_some
theorem MtOk.kx {X : Nat → Prop} {W W' : World} {x : MtV} (h : MtOk W x) (k : KpX X W W') (s : Qi x.m.d.path ≠ [] → ∀ ad, x.A = some ad → ¬ X ad.block) : MtOk W' x := ⟨k.rd h.rd s, h.len, h.nil, h.dig⟩
end Go.Proofs.YtkoikjnlpifbjaaGreat
namespace Go.Proofs.YtkoikjnlpifbjaaGreat
open Go.RowKit Go.Deep
attribute [local go_sem] Oper.semAt_some
theorem XO (w : World) : (zeroValue 38).run Tryz.prog w = .ok (.agg #[.int .i64 0, .slice none 0 0, .slice none 0 0, .slice none 0 0, .int .i64 0, .slice none 0 0, .int .i64 0, .int .i64 0, .int .i64 0]) w := by kernel_rfl
end Go.Proofs.YtkoikjnlpifbjaaGreat
namespace Go.Proofs.YtkoikjnlpifbjaaGreat
open Go.RowKit Go.Deep
def cp0 : CpV := ⟨⟨0, none, 0, [], none, 0, []⟩, none, 0, [], 0, none, 0, [], ⟨0, 0, 0⟩⟩
structure Cd where
 params : Int
 V : List Int
 body : List Nd
 tests : List (List Int)
 fuel : Int
 muts : List Mt
 sc : Sc
def CpV.data (c : CpV) : Cd := ⟨c.p.params, c.p.V, c.p.body, c.testsL, c.fuel, c.muts, c.sc⟩
theorem AgD {a b : CpV} : a.data = b.data ↔ (a.p.params = b.p.params ∧ a.p.V = b.p.V ∧ a.p.body = b.p.body) ∧ a.testsL = b.testsL ∧ a.fuel = b.fuel ∧ a.muts = b.muts ∧ a.sc = b.sc := by
 unfold CpV.data;simp only [Cd.mk.injEq];constructor
 · rintro ⟨c, d, e, g, h, i, j⟩; exact ⟨⟨c, d, e⟩, g, h, i, j⟩
 · rintro ⟨⟨c, d, e⟩, g, h, i, j⟩; exact ⟨c, d, e, g, h, i, j⟩
theorem sameC_iff {a b : CpV} : XP a b = true ↔ a.data = b.data := by
 rw [AgD];unfold XP YC;simp only [LU, decide_eq_true_eq, beq_iff_eq];constructor
 · rintro ⟨⟨d, e, g⟩, h, c, ⟨i, j, k⟩, l⟩;exact ⟨⟨d, e, g⟩, h, c, l, by rw [show a.sc = ⟨a.sc.alive, a.sc.killed, a.sc.timeout⟩ from rfl, i, j, k]⟩
 · rintro ⟨d, e, g, h, c⟩;exact ⟨d, e, g, ⟨by rw [c], by rw [c], by rw [c]⟩, h⟩
theorem Ain : (Tryz.prog.info? 54).map (fun i => (i.zero, i.size, i.bytes)) = some (some (.agg #[.slice none 0 0, .int .i64 0, .int .i64 0, .int .i64 0, .int .i64 0, .int .i64 0, .int .i64 0, .string ByteArray.empty]), 8, 88) := by kernel_rfl
theorem U4 (a b : List MtV) : J8 (a ++ b) = J8 a ++ J8 b := by simp [J8]
theorem Ac1 : ∀ l : List MtV, (J8 l).length = l.length * 8
 | [] => rfl
 | x :: l => by
  have := Ac1 l
  have h : J8 (x :: l) = x.cells ++ J8 l := rfl
  rw [h, Ld, this]; simp [MtV.cells]; omega
theorem Ag5 (l : List MtV) : ∀ u ∈ J8 l, u.oneCell' = true := fun u hu => by
 obtain ⟨x, _, b⟩ := ND.1 hu;have := Aei x;rw [Array.all_eq_true'] at this;exact this u (by simpa using b)
theorem Aam {W : World} {B n m cap : Nat} {v : Value} {xs : List Value} {A : Option Addr} (hown : W.ownsRow B 54 8 v n xs) (hB : B ≤ W.heap.size) (l : List MtV) (hr : Rd W A (J8 l)) (hm : m = l.length) (hA : A = none → m = 0) (hb : n + m ≤ 1000000) :
 ∃ v' W', (Builtin.append_ #[34, 34] 34 #[v, .slice A m cap]).run Tryz.prog W = .ok v' W' ∧ W'.ownsRow B 54 8 v' (n + m) (xs ++ J8 l) ∧ W.grownBy W' v.ownBlock ∧ (v'.ownBlock = v.ownBlock ∨ v'.ownBlock = some W.heap.size) :=
 Zr 34 54 _ 8 88 Tryz.underlying34 Ain rfl (by decide) (by decide) hown hB hr (by rw [Ac1, hm]) (Ag5 l) hA hb
end Go.Proofs.YtkoikjnlpifbjaaGreat
