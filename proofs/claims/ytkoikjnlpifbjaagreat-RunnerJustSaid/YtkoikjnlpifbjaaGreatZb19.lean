/- Lemmas for RunnerJustP. -/
import Derived.Test.YtkoikjnlpifbjaaGreatZb1
import Derived.Test.YtkoikjnlpifbjaaGreatZb13
import Derived.Test.YtkoikjnlpifbjaaGreatZb12
import Derived.Test.YtkoikjnlpifbjaaGreatZb16
import Derived.Test.YtkoikjnlpifbjaaGreatZb8
import Derived.Test.YtkoikjnlpifbjaaGreatZb18
set_option linter.unusedVariables false
set_option linter.unusedSimpArgs false
set_option maxRecDepth 100000
set_option maxHeartbeats 16000000
namespace Go.Proofs.YtkoikjnlpifbjaaGreat
open Go.RowKit Go.Deep
theorem Aio {params fuel : Int} {ts : List (List Int)} (h : ts.length < 1 ∨ 20 < ts.length) : ZR params ts fuel = 18 := by unfold ZR; rw [if_pos h]
theorem Aip {params fuel : Int} {ts : List (List Int)} {l : List Int} (hl : l ∈ ts) (h : ¬ (l.length : Int) = params) : ZR params ts fuel = 18 := by
 unfold ZR;split
 · rfl
 · rw [if_neg (fun e => h (e l hl))]
theorem Aiq {params fuel : Int} {ts : List (List Int)} (h : ¬ (ts.length < 1 ∨ 20 < ts.length)) (h2 : ∀ l ∈ ts, (l.length : Int) = params) : ZR params ts fuel = if fuel < 1 ∨ 10000 < fuel then 19 else 0 := by unfold ZR; rw [if_neg h, if_pos h2]
def QP (b : Bool) (e : Int) : Int := if b then 0 else e
theorem Jz (b : Bool) (n : Int) (w : World) : Calls Tryz.prog 66 #[.bool b, .int .i64 n] w fun e w' => e = .returned (.int .i64 (QP b n)) ∧ w = w' := by
 cases b
 all_goals
  go_enter Tryz.func66, Tryz.ntmps66
  go_wp2
  go_ret
  exact ⟨rfl, rfl⟩
theorem JS (b : Bool) (n : Int) (w : World) : Calls Tryz.prog 40 #[.bool b, .int .i64 n] w fun e w' => e = .returned (.int .i64 (QP b n)) ∧ w = w' := by
 cases b
 all_goals
  go_enter Tryz.func40, Tryz.ntmps40
  go_wp2
  go_ret
  exact ⟨rfl, rfl⟩
theorem Ajx (P : Nat) (params : Int) (x : IntsV) (w : World) (hr : Row w P 3 #[.int .i64 params]) : Calls Tryz.prog 63 #[x.val, .pointer (some ⟨P, 0, none⟩)] w fun e w' => e = .returned (.bool ((x.l.length : Int) != params)) ∧ Below w.heap.size w w' := by
 have c := hr.cellv (i := 0) (v := .int .i64 params) rfl;rw [show x.val = .slice x.addr x.l.length x.cap from rfl];go_enter Tryz.func63, Tryz.ntmps63
 go_wp2
 go_ret
 exact ⟨rfl, Below.refl _ _⟩
theorem Agl (P : Nat) (A : Option Addr) (cap : Nat) (l : List IntsV) (p : IntsV → Bool) (w : World) (S : World → Prop) [stS : St S] (hS : S w) (hrd : ∀ W, S W → Rd W A (Ji l)) (hlo : ∀ W, S W → Below w.heap.size w W)
 (hp : ∀ x ∈ l, ∀ W, S W → Calls Tryz.prog 63 #[.slice x.addr x.l.length x.cap, .pointer (some ⟨P, 0, none⟩)] W fun e W' => e = .returned (.bool (p x)) ∧ Below W.heap.size W W') (hl : l.length ≤ 1000000) :
 Calls Tryz.prog 106 #[.slice A l.length cap, .func (.func 63) #[] #[.pointer (some ⟨P, 0, none⟩)]] w fun e w' => e = .returned (.int .i64 (Aax p l)) ∧ Below w.heap.size w w' := by
 have z := Lv hp;have q := Lv hrd;have j := Lv hlo;have aa : (l.length : Int) ≤ 1000000 := by omega
 clear hp hrd hlo hl;go_enter Tryz.func106, Tryz.ntmps106
 go_wp2
 go_loopw [8] (fun i wr => ∃ k : Nat, i = .int .i64 (k : Int) ∧ k ≤ l.length ∧ Hid (∀ y ∈ l.take k, p y = false) ∧ S wr) (fun i _ => l.length - (intOf i).toNat)
 case atStart => exact ⟨0, rfl, Nat.zero_le _, Lv (fun x g => by simp at g), hS⟩
 case round =>
  clear hS;obtain ⟨k, rfl, hk, b, hS⟩ := hrel;by_cases d : k < l.length
  · obtain ⟨x, g⟩ : ∃ x, l[k]? = some x := ⟨_, La d⟩;obtain ⟨ad, s, n⟩ := Kj (q.out _ hS) g;have h : Hid (wr.cell? (ad.add k) = some (.slice x.addr x.l.length x.cap)) := n;have o := Lv g;have c := Lv (z.out x (Lj g) wr hS);have v : (k : Int) < (l.length : Int) := by omega
    clear g d n;subst s;(have t := h.out); go_wp2_with fail; clear t;refine c.out.mono ?_;rintro e w' ⟨rfl, u⟩;replace hS := stS.go hS u;clear u c h;cases hs : p x
    · have m := Lv (J8 b.out o.out hs);clear hs o;go_wp2_with fail
      go_roundw
      case rel => exact ⟨k + 1, by go_num, by omega, m, hS⟩
      case measure => simp [intOf]; omega
    · have m := Lv (Ur b.out o.out hs);clear hs o;go_wp2_with fail
      go_ret
      exact ⟨by rw [m.out]; rfl, j.out _ hS⟩
  · obtain rfl : k = l.length := by omega
    have m := Lv (VK (p := p) (l := l) (by have := b.out; rwa [LW] at this));clear d hk;go_wp2
    go_ret
    exact ⟨by rw [m.out]; rfl, j.out _ hS⟩
theorem Aev (P : Nat) (A : Option Addr) (cap : Nat) (l : List IntsV) (p : IntsV → Bool) (w : World) (S : World → Prop) [stS : St S] (hS : S w) (hrd : ∀ W, S W → Rd W A (Ji l)) (hlo : ∀ W, S W → Below w.heap.size w W)
 (hp : ∀ x ∈ l, ∀ W, S W → Calls Tryz.prog 63 #[.slice x.addr x.l.length x.cap, .pointer (some ⟨P, 0, none⟩)] W fun e W' => e = .returned (.bool (p x)) ∧ Below W.heap.size W W') (hl : l.length ≤ 1000000) :
 Calls Tryz.prog 68 #[.slice A l.length cap, .func (.func 63) #[] #[.pointer (some ⟨P, 0, none⟩)]] w fun e w' => e = .returned (.bool (l.any p)) ∧ Below w.heap.size w w' := by
 have b := Lv (Agl P A cap l p w S hS hrd hlo hp hl);clear hp hrd hlo hl hS;go_enter Tryz.func68, Tryz.ntmps68
 go_wp2_with fail
 refine b.out.mono ?_;rintro e w' ⟨rfl, d⟩;have c := Lv (Uq p l);clear b;go_wp2_with fail
 go_ret
 exact ⟨ZU c.out.symm, d⟩
theorem Ail (T : Nat) (A : Option Addr) (n cap : Nat) (w : World) (hr : Row w T 26 #[.slice A n cap]) :
 Calls Tryz.prog 65 #[.pointer (some ⟨T, 0, none⟩)] w fun e w' => e = .returned (.int .i64 (QP (decide (1 ≤ n ∧ n ≤ 20)) 18)) ∧ Below w.heap.size w w' := by
 have c := hr.cellv (i := 0) (v := .slice A n cap) rfl;by_cases d : 1 ≤ n
 · by_cases h : n ≤ 20
   · have g : (1 : Int) ≤ (n : Int) := by omega
     have j : decide ((n : Int) ≤ 20) = true := by simp; omega
     have b : Hid (decide (1 ≤ n ∧ n ≤ 20) = true) := by show _ = _; simp [d, h]
     clear d h;go_enter Tryz.func65, Tryz.ntmps65
     go_wp2_with fail
     refine (Jz _ _ _).mono ?_;rintro e w' ⟨rfl, rfl⟩;go_wp2_with fail
     go_ret
     exact ⟨by rw [b.out]; rfl, Below.refl _ _⟩
   · have g : (1 : Int) ≤ (n : Int) := by omega
     have j : decide ((n : Int) ≤ 20) = false := by simp; omega
     have b : Hid (decide (1 ≤ n ∧ n ≤ 20) = false) := by show _ = _; simp [h]
     clear d h;go_enter Tryz.func65, Tryz.ntmps65
     go_wp2_with fail
     refine (Jz _ _ _).mono ?_;rintro e w' ⟨rfl, rfl⟩;go_wp2_with fail
     go_ret
     exact ⟨by rw [b.out]; rfl, Below.refl _ _⟩
 · have g : (n : Int) < 1 := by omega
   have b : Hid (decide (1 ≤ n ∧ n ≤ 20) = false) := by show _ = _; simp [d]
   clear d;go_enter Tryz.func65, Tryz.ntmps65
   go_wp2_with fail
   refine (Jz _ _ _).mono ?_;rintro e w' ⟨rfl, rfl⟩;go_wp2_with fail
   go_ret
   exact ⟨by rw [b.out]; rfl, Below.refl _ _⟩
theorem Ain (F : Nat) (fuel : Int) (w : World) (hr : Row w F 3 #[.int .i64 fuel]) :
 Calls Tryz.prog 69 #[.pointer (some ⟨F, 0, none⟩)] w fun e w' => e = .returned (.int .i64 (QP (decide (1 ≤ fuel ∧ fuel ≤ 10000)) 19)) ∧ Below w.heap.size w w' := by
 have c := hr.cellv (i := 0) (v := .int .i64 fuel) rfl;by_cases g : 1 ≤ fuel
 · by_cases d : fuel ≤ 10000
   · have h : decide (fuel ≤ 10000) = true := by simp; omega
     have b : Hid (decide (1 ≤ fuel ∧ fuel ≤ 10000) = true) := by show _ = _; simp [g, d]
     clear d;go_enter Tryz.func69, Tryz.ntmps69
     go_wp2_with fail
     refine (Jz _ _ _).mono ?_;rintro e w' ⟨rfl, rfl⟩;go_wp2_with fail
     go_ret
     exact ⟨by rw [b.out]; rfl, Below.refl _ _⟩
   · have h : decide (fuel ≤ 10000) = false := by simp; omega
     have b : Hid (decide (1 ≤ fuel ∧ fuel ≤ 10000) = false) := by show _ = _; simp [d]
     clear d;go_enter Tryz.func69, Tryz.ntmps69
     go_wp2_with fail
     refine (Jz _ _ _).mono ?_;rintro e w' ⟨rfl, rfl⟩;go_wp2_with fail
     go_ret
     exact ⟨by rw [b.out]; rfl, Below.refl _ _⟩
 · have j : fuel < 1 := by omega
   have b : Hid (decide (1 ≤ fuel ∧ fuel ≤ 10000) = false) := by show _ = _; simp [g]
   clear g;go_enter Tryz.func69, Tryz.ntmps69
   go_wp2_with fail
   refine (Jz _ _ _).mono ?_;rintro e w' ⟨rfl, rfl⟩;go_wp2_with fail
   go_ret
   exact ⟨by rw [b.out]; rfl, Below.refl _ _⟩
theorem Aim (T O P : Nat) (A : Option Addr) (cap : Nat) (l : List IntsV) (params : Int) (w : World) (hr : Rd w A (Ji l)) (hl : l.length ≤ 1000000) (rT : Row w T 26 #[.slice A l.length cap]) (rO : Row w O 128 #[.func (.func 63) #[] #[.pointer (some ⟨P, 0, none⟩)]]) (rP : Row w P 3 #[.int .i64 params]) :
 Calls Tryz.prog 67 #[.pointer (some ⟨T, 0, none⟩), .pointer (some ⟨O, 0, none⟩)] w fun e w' => e = .returned (.int .i64 (QP (!l.any fun x => (x.l.length : Int) != params) 18)) ∧ Below w.heap.size w w' := by
 have k := rT.cellv (i := 0) (v := .slice A l.length cap) rfl;have m := rO.cellv (i := 0) (v := .func (.func 63) #[] #[.pointer (some ⟨P, 0, none⟩)]) rfl;have c := Lv (Aev P A cap l (fun x => (x.l.length : Int) != params) w (fun W => (Rd W A (Ji l) ∧ Row W P 3 #[.int .i64 params]) ∧ Below w.heap.size w W) ⟨⟨hr, rP⟩, Below.refl _ _⟩ (fun W h => h.1.1) (fun W h => h.2) (fun x _ W h => Ajx P params x W h.1.2) hl);clear rT rO rP hr hl;go_enter Tryz.func67, Tryz.ntmps67
 go_wp2_with fail
 refine c.out.mono ?_;rintro e n ⟨rfl, j⟩;clear c k m;generalize d : (l.any fun x => (x.l.length : Int) != params) = b;have g := Lv d;clear d;cases b
 all_goals
  go_wp2_with fail
  refine (Jz _ _ _).mono ?_
  rintro e w' ⟨rfl, rfl⟩
  go_wp2_with fail
  go_ret
  exact ⟨by rw [g.out]; rfl, j⟩
theorem Agh (M T O F : Nat) (e1 e2 e3 : Int) (w : World) (S S2 : World → Prop) [stS : St S] (hS : S w) (hs : ∀ W, S W → Row W M 103 #[.func (.func 65) #[] #[.pointer (some ⟨T, 0, none⟩)], .func (.func 67) #[] #[.pointer (some ⟨T, 0, none⟩), .pointer (some ⟨O, 0, none⟩)], .func (.func 69) #[] #[.pointer (some ⟨F, 0, none⟩)]] ∧ S2 W) (hlo : ∀ W, S W → Below w.heap.size w W)
 (h2 : ∀ W, S2 W → Calls Tryz.prog 65 #[.pointer (some ⟨T, 0, none⟩)] W fun e W' => e = .returned (.int .i64 e1) ∧ Below W.heap.size W W')
 (h3 : ∀ W, S2 W → Calls Tryz.prog 67 #[.pointer (some ⟨T, 0, none⟩), .pointer (some ⟨O, 0, none⟩)] W fun e W' => e = .returned (.int .i64 e2) ∧ Below W.heap.size W W')
 (h4 : ∀ W, S2 W → Calls Tryz.prog 69 #[.pointer (some ⟨F, 0, none⟩)] W fun e W' => e = .returned (.int .i64 e3) ∧ Below W.heap.size W W') :
 Calls Tryz.prog 64 #[.slice (some ⟨M, 0, none⟩) 3 3] w fun e w' => e = .returned (.int .i64 (orL [e1, e2, e3])) ∧ Below w.heap.size w w' := by
 have z := Lv h2;have H3 := Lv h3;have H4 := Lv h4;have s := Lv hs;have l := Lv hlo;clear h2 h3 h4 hs hlo;go_enter Tryz.func64, Tryz.ntmps64
 go_wp2
 go_loopw [8] (fun i wr => ∃ k : Nat, i = .int .i64 (k : Int) ∧ k ≤ 3 ∧ Hid (∀ j : Nat, j < k → ([e1, e2, e3] : List Int)[j]? = some 0) ∧ S wr) (fun i _ => 3 - (intOf i).toNat)
 case atStart => exact ⟨0, rfl, Nat.zero_le _, Lv (fun j x => by omega), hS⟩
 case round =>
  clear hS;obtain ⟨k, rfl, hk, m, hS⟩ := hrel;have y : k = 0 ∨ k = 1 ∨ k = 2 ∨ k = 3 := by omega
  clear hk;rcases y with rfl | rfl | rfl | rfl
  · skip;have b := (s.out _ hS).1;have t := b.cellv (i := 0) (v := .func (.func 65) #[] #[.pointer (some ⟨T, 0, none⟩)]) rfl;have n := Lv (z.out wr ((s.out _ hS).2));clear b;go_wp2_with fail
    refine n.out.mono ?_;rintro e w' ⟨rfl, o⟩;replace hS := stS.go hS o;clear t n o;by_cases c : e1 = 0
    · have g : (e1 != 0) = false := by simp [c]
      have d : Hid (∀ j : Nat, j < 0 + 1 → ([e1, e2, e3] : List Int)[j]? = some 0) := fun j x => by
       by_cases h : j < 0
       · exact m.out j h
       · obtain rfl : j = 0 := by omega
         simp [c]
      clear c;go_wp2_with fail
      go_roundw
      case rel => exact ⟨0 + 1, by go_num, by omega, d, hS⟩
      case measure => simp [intOf]
    · have g : (e1 != 0) = true := by simpa using c
      have q : Hid (orL [e1, e2, e3] = e1) := by
       show _ = _;simp [orL, c]
      clear c;go_wp2_with fail
      go_ret
      exact ⟨by rw [q.out]; rfl, l.out _ hS⟩
  · skip;have b := (s.out _ hS).1;have t := b.cellv (i := 1) (v := .func (.func 67) #[] #[.pointer (some ⟨T, 0, none⟩), .pointer (some ⟨O, 0, none⟩)]) rfl;have n := Lv (H3.out wr ((s.out _ hS).2));clear b;go_wp2_with fail
    refine n.out.mono ?_;rintro e w' ⟨rfl, o⟩;replace hS := stS.go hS o;clear t n o;by_cases c : e2 = 0
    · have g : (e2 != 0) = false := by simp [c]
      have d : Hid (∀ j : Nat, j < 1 + 1 → ([e1, e2, e3] : List Int)[j]? = some 0) := fun j x => by
       by_cases h : j < 1
       · exact m.out j h
       · obtain rfl : j = 1 := by omega
         simp [c]
      clear c;go_wp2_with fail
      go_roundw
      case rel => exact ⟨1 + 1, by go_num, by omega, d, hS⟩
      case measure => simp [intOf]
    · have g : (e2 != 0) = true := by simpa using c
      have q : Hid (orL [e1, e2, e3] = e2) := by
       show _ = _;have p := m.out 0 (by omega); simp at p; simp [orL, p, c]
      clear c;go_wp2_with fail
      go_ret
      exact ⟨by rw [q.out]; rfl, l.out _ hS⟩
  · skip;have b := (s.out _ hS).1;have t := b.cellv (i := 2) (v := .func (.func 69) #[] #[.pointer (some ⟨F, 0, none⟩)]) rfl;have n := Lv (H4.out wr ((s.out _ hS).2));clear b;go_wp2_with fail
    refine n.out.mono ?_;rintro e w' ⟨rfl, o⟩;replace hS := stS.go hS o;clear t n o;by_cases c : e3 = 0
    · have g : (e3 != 0) = false := by simp [c]
      have d : Hid (∀ j : Nat, j < 2 + 1 → ([e1, e2, e3] : List Int)[j]? = some 0) := fun j x => by
       by_cases h : j < 2
       · exact m.out j h
       · obtain rfl : j = 2 := by omega
         simp [c]
      clear c;go_wp2_with fail
      go_roundw
      case rel => exact ⟨2 + 1, by go_num, by omega, d, hS⟩
      case measure => simp [intOf]
    · have g : (e3 != 0) = true := by simpa using c
      have q : Hid (orL [e1, e2, e3] = e3) := by
       show _ = _;have p := m.out 0 (by omega); have u := m.out 1 (by omega); simp at p u; simp [orL, p, u, c]
      clear c;go_wp2_with fail
      go_ret
      exact ⟨by rw [q.out]; rfl, l.out _ hS⟩
  · have q : Hid (orL [e1, e2, e3] = 0) := by
     show _ = _;have p := m.out 0 (by omega);have u := m.out 1 (by omega);have h2 := m.out 2 (by omega);simp at p u h2;simp [orL, p, u, h2]
    go_wp2
    go_ret
    exact ⟨by rw [q.out]; rfl, l.out _ hS⟩
theorem AgR (params fuel : Int) (l : List IntsV) : orL [QP (decide (1 ≤ l.length ∧ l.length ≤ 20)) 18, QP (!l.any fun x => (x.l.length : Int) != params) 18, QP (decide (1 ≤ fuel ∧ fuel ≤ 10000)) 19] = ZR params (l.map IntsV.l) fuel := by
 unfold QP;by_cases d : (l.map IntsV.l).length < 1 ∨ 20 < (l.map IntsV.l).length
 · rw [Aio d];rw [Lz] at d;have : ¬ (1 ≤ l.length ∧ l.length ≤ 20) := by omega
   simp [orL, this]
 · by_cases i : ∀ t ∈ l.map IntsV.l, (t.length : Int) = params
   · rw [Aiq d i];rw [Lz] at d;have g : 1 ≤ l.length ∧ l.length ≤ 20 := by omega
     have h : (l.any fun x => (x.l.length : Int) != params) = false := by
      rw [N8];intro x c;have := i x.l (LY c);simp [this]
     by_cases k : 1 ≤ fuel ∧ fuel ≤ 10000
     · have e : (if fuel < 1 ∨ 10000 < fuel then (19 : Int) else 0) = 0 := if_neg (by omega);rw [e]; simp [orL, g, h, k]
     · have e : (if fuel < 1 ∨ 10000 < fuel then (19 : Int) else 0) = 19 := if_pos (by omega);rw [e]; simp [orL, g, h, k]
   · have j : ∃ x ∈ l, ¬ (x.l.length : Int) = params := by
      refine Classical.byContradiction fun m => i fun t n => ?_
      obtain ⟨x, c, rfl⟩ := LR.1 n;exact Classical.byContradiction fun b => m ⟨x, c, b⟩
     obtain ⟨x, c, b⟩ := j;rw [Aip (LY c) b];rw [Lz] at d;have g : 1 ≤ l.length ∧ l.length ≤ 20 := by omega
     have h : (l.any fun x => (x.l.length : Int) != params) = true := by
      rw [List.any_eq_true];exact ⟨x, c, by simpa using b⟩
     simp [orL, g, h]
theorem AiG (w : World) : (zeroValue 128).run Tryz.prog w = .ok .nilFunc w := by kernel_rfl
theorem Ajf : (Tryz.prog.info? 103).map (fun i => (i.zero, i.size)) = some (some .nilFunc, 1) := by kernel_rfl
theorem Vg (params fuel : Int) (A : Option Addr) (cap : Nat) (l : List IntsV) (w : World) (hr : Rd w A (Ji l)) (hl : l.length ≤ 1000000) :
 Calls Tryz.prog 25 #[.int .i64 params, .slice A l.length cap, .int .i64 fuel] w fun e w' => e = .returned (.int .i64 (ZR params (l.map IntsV.l) fuel)) ∧ Below w.heap.size w w' := by
 have Hr := Lv hr;have Hl := Lv hl;clear hr hl;go_enter Tryz.func25, Tryz.ntmps25
 go_wp2_with (refine Qm _ _ rfl ?_)
 refine Stop.to ?_;refine Qe rfl 3 _ rfl #[.int .i64 params] rfl ?_;intro P Pw Ph n Pb;go_wp2_with (refine Qm _ _ rfl ?_)
 refine Stop.to ?_;refine Qe rfl 26 _ rfl #[.slice A l.length cap] rfl ?_;intro T Tw u Tr o;go_wp2_with (refine Qm _ _ rfl ?_)
 refine Stop.to ?_;refine Qe rfl 3 _ rfl #[.int .i64 fuel] rfl ?_;intro F Fw q Fr m;have d := (n.below o (Lg n.lt u)).below m (by have := n.lt; have := o.size; omega);have g := Tr.below m (Lg Tr.lt q);have c := Fr;have v := (Below.refl w.heap.size w).trans (Pb.mono Ph);have z := v.trans ((o.mono u).mono v.size);have b3 := z.trans ((m.mono q).mono z.size);clear n Tr Fr Pb o m Ph u q v z;go_wp2_with (refine QE _ rfl ?_)
 refine Stop.to ?_;refine Qi rfl 128 rfl _ _ (AiG _) rfl ?_;intro O Ow t Or Ob;go_wp2_with (refine Qp _ _ _ rfl ?_)
 refine Stop.to ?_;refine Qq rfl 128 _ _ rfl O 0 rfl (.func (.func 63) #[] #[.pointer (some ⟨P, 0, none⟩)]) rfl [.func (.func 63) #[] #[.pointer (some ⟨P, 0, none⟩)]] rfl 128 _ #[.func (.func 63) #[] #[.pointer (some ⟨P, 0, none⟩)]] Or (by kernel_rfl) (by show 0 + 1 ≤ 1; omega) (by simp [Value.oneCell']) rfl ?_;intro Ox k Oo;have j := (Ob.mono t).trans (Oo.below t);replace d := d.below j d.lt;replace g := g.below j g.lt;replace c := c.below j c.lt;have b4 := b3.trans (j.mono b3.size);clear Or Ob t Oo j b3;go_wp2_with (refine ZE _ _ _ rfl ?_)
 refine Stop.to ?_;refine Qz rfl 174 3 _ rfl 103 #[.func (.func 65) #[] #[.pointer (some ⟨T, 0, none⟩)], .func (.func 67) #[] #[.pointer (some ⟨T, 0, none⟩), .pointer (some ⟨O, 0, none⟩)], .func (.func 69) #[] #[.pointer (some ⟨F, 0, none⟩)]] (Z6 Tryz.underlying174 Ajf (by decide) (by decide) (by kernel_rfl)) ?_;intro M s Mh Mr Mb;have i := Mb.mono Mh;replace d := d.below i d.lt;replace g := g.below i g.lt;replace c := c.below i c.lt;replace k := k.below i k.lt;have p := b4.trans (i.mono b4.size)
 have b := Agh M T O F (QP (decide (1 ≤ l.length ∧ l.length ≤ 20)) 18) (QP (!l.any fun x => (x.l.length : Int) != params) 18) (QP (decide (1 ≤ fuel ∧ fuel ≤ 10000)) 19) s
  (fun W => (Row W M 103 #[.func (.func 65) #[] #[.pointer (some ⟨T, 0, none⟩)], .func (.func 67) #[] #[.pointer (some ⟨T, 0, none⟩), .pointer (some ⟨O, 0, none⟩)], .func (.func 69) #[] #[.pointer (some ⟨F, 0, none⟩)]] ∧ (Rd W A (Ji l) ∧ Row W T 26 #[.slice A l.length cap] ∧ Row W O 128 #[.func (.func 63) #[] #[.pointer (some ⟨P, 0, none⟩)]] ∧ Row W P 3 #[.int .i64 params] ∧ Row W F 3 #[.int .i64 fuel])) ∧ Below s.heap.size s W)
  (fun W => Rd W A (Ji l) ∧ Row W T 26 #[.slice A l.length cap] ∧ Row W O 128 #[.func (.func 63) #[] #[.pointer (some ⟨P, 0, none⟩)]] ∧ Row W P 3 #[.int .i64 params] ∧ Row W F 3 #[.int .i64 fuel])
  ⟨⟨Mr, Hr.out.go p, g, k, d, c⟩, Below.refl _ _⟩ (fun W h => h.1) (fun W h => h.2)
  (fun W h => Ail T A l.length cap W h.2.1) (fun W h => Aim T O P A cap l params W h.1 Hl.out h.2.1 h.2.2.1 h.2.2.2.1) (fun W h => Ain F fuel W h.2.2.2.2)
 rw [AgR] at b;have Hf := Lv b;clear b d g c k Mr Mb i Mh b4;go_wp2_with fail
 refine Hf.out.mono ?_;rintro e w9 ⟨rfl, b9⟩;have y := p.trans (b9.mono p.size);clear Hf b9 p;go_wp2_with fail
 go_ret
 exact ⟨rfl, y⟩
theorem AfF {W : World} {A : Addr} {x : MtV} (h : ∀ j u, x.cells[j]? = some u → W.cell? (A.add j) = some u) : ∀ j v, x.dl.cells.toList[j]? = some v → W.cell? (A.add j) = some v := fun j v hj => h j v (by
 match j, hj with
 | 0, hj | 1, hj | 2, hj => exact hj
 | j + 3, hj => simp [DlV.cells] at hj)
theorem AcQ {l : List Mt} {k : Nat} {x : Mt} (hx : l[k]? = some x) (v : Int) : ZI (l.take (k + 1)) v = ZI (l.take k) v + if x.verdict = v then 1 else 0 := by
 unfold ZI;rw [LG, hx, NF];by_cases h : x.verdict = v <;> simp [h]
theorem UZ (l : List Mt) (k : Nat) (v : Int) : 0 ≤ ZI (l.take k) v ∧ ZI (l.take k) v ≤ k := by
 unfold ZI;have b := N2 (fun m : Mt => m.verdict == v) (l.take k);have c : (l.take k).length ≤ k := List.length_take_le _ _;omega
theorem Akr (a b c d : Value) : ZQ #[a, b, c] 0 [d] = #[d, b, c] := rfl
theorem Aks (a b c d : Value) : ZQ #[a, b, c] 1 [d] = #[a, d, c] := rfl
theorem Akt (a b c d : Value) : ZQ #[a, b, c] 2 [d] = #[a, b, d] := rfl
theorem Abq (A : Option Addr) (cap : Nat) (l : List MtV) (w : World) (hr : Rd w A (J9 l)) (hl : l.length ≤ 1000000) :
 Calls Tryz.prog 32 #[.slice A l.length cap] w fun e w' => e = .returned (.agg (Qx (l.map MtV.m)).cells) ∧ Below w.heap.size w w' := by
 have Hr := Lv hr;have ai : (l.length : Int) ≤ 1000000 := by omega
 clear hr hl;have zc := VD;go_enter Tryz.func32, Tryz.ntmps32
 go_wp2_with (first | fail | (refine QE _ rfl ?_))
 refine Stop.to ?_;refine Qi rfl 36 rfl _ _ (Aat _) rfl ?_;intro R Rw Rh Rr Rb;go_wp2_with (first | fail | (refine QE _ rfl ?_))
 refine Stop.to ?_;refine Qi rfl 108 rfl _ _ (zc _) rfl ?_;intro C Cw Ch Cr Cb;have d := Rr.below Cb (Lg Rr.lt Ch);have u : R ≠ C := by have := Rr.lt; omega
 have b1 := (Below.refl w.heap.size w).trans (Rb.mono Rh);have b2 := b1.trans ((Cb.mono Ch).mono b1.size);have hC : w.heap.size ≤ C := Li b1.size Ch;have hR : w.heap.size ≤ R := Rh;clear Rr Rb Cb b1 zc Rh Ch;have c := Cr;clear Cr;go_wp2_with fail
 go_loopw [8] (fun i wr => ∃ k : Nat, i = .int .i64 (k : Int) ∧ k ≤ l.length ∧ Row wr R 36 #[.int .i64 0, .int .i64 0, .int .i64 0] ∧ Row wr C 108 (Qx ((l.map MtV.m).take k)).cells ∧ Below w.heap.size w wr) (fun i _ => l.length - (intOf i).toNat)
 case atStart => exact ⟨0, rfl, Nat.zero_le _, d, c, b2⟩
 case round =>
  clear d c b2;obtain ⟨k, rfl, hk, d, c, b⟩ := hrel;by_cases y : k < l.length
  · obtain ⟨x, hx⟩ : ∃ x, l[k]? = some x := ⟨_, La y⟩;obtain ⟨ad, ac, ab⟩ := Abg (Hr.out.go b) hx;have hs := fun v => AcQ (l := l.map MtV.m) (k := k) (x := x.m) (by simp [hx]) v
    have g := Lv (hs 0);have h := Lv (hs 1);have j := Lv (hs 2);have af := UZ (l.map MtV.m) k 0;have ag := UZ (l.map MtV.m) k 1;have ah := UZ (l.map MtV.m) k 2;have ae : (k : Int) < (l.length : Int) := by omega
    have aa := Lv ab;clear hx y ab hs;subst ac;go_wp2_with (first | (refine QF rfl 54 _ rfl (ad.add (k * 8)) rfl x.cells _ (aa.out) Tryz.underlying54 rfl (by kernel_rfl) ?_) | (refine QE _ rfl ?_))
    refine Stop.to ?_;refine Qi rfl 54 rfl _ _ (AiH _) rfl ?_;intro G Gw Gh Gr Gb;go_wp2_with (refine Qp _ _ _ rfl ?_)
    refine Stop.to ?_;refine Qk rfl 54 _ _ rfl G x.cells.toArray rfl rfl 54 _ Gr (by kernel_rfl) rfl (AeQ _) ?_;intro Gx Gs Go;have Gc := (Gb.mono Gh).trans (Go.below Gh);clear Gb Gr Go;replace d := d.below Gc d.lt;replace c := c.below Gc c.lt;replace b := b.trans (Gc.mono b.size);have o := Gs.cellv (i := 3) (v := .int .i64 x.m.verdict) rfl;clear aa Gc Gh;rw [show (Qx ((l.map MtV.m).take k)).cells = #[.int .i64 (ZI ((l.map MtV.m).take k) 0), .int .i64 (ZI ((l.map MtV.m).take k) 1), .int .i64 (ZI ((l.map MtV.m).take k) 2)] from rfl] at c;generalize ZI ((l.map MtV.m).take k) 0 = n0 at *;generalize ZI ((l.map MtV.m).take k) 1 = n1 at *;generalize ZI ((l.map MtV.m).take k) 2 = n2 at *;by_cases h0 : x.m.verdict = 0
    · have t : Hid ((Qx ((l.map MtV.m).take (k + 1))).cells = #[.int .i64 (n0 + 1), .int .i64 n1, .int .i64 n2]) := by
       show _ = _;unfold Qx Sc.cells;simp only [g.out, h.out, j.out, h0];simp
      have n : x.m.verdict = 0 := h0;have c3 : Gx.cell? ⟨G, 3, none⟩ = some (.int .i64 0) := by rw [← n]; exact o
      have c4 : Gx.cell? ⟨C, 0, none⟩ = some (.int .i64 n0) := c.cellv (i := 0) rfl;clear h0 n o g h j Gs;go_wp2_with (refine Qp _ _ _ rfl ?_)
      refine Stop.to ?_;refine Qq rfl 3 _ _ rfl C 0 rfl (.int .i64 (n0 + 1)) (by first | rfl | (simp; done)) [.int .i64 (n0 + 1)] rfl 108 _ _ c (by kernel_rfl) (by simp) (by simp [Value.oneCell']) (Akr _ _ _ _) ?_
      intro W9 z p;have q := b.trans (p.below hC);have s := d.only p u;clear p c d b c3 c4;go_wp2_with fail
      go_roundw
      case rel => exact ⟨k + 1, by go_num, by omega, s, by rw [t.out]; exact z, q⟩
      case measure => simp [intOf]; omega
    by_cases h1 : x.m.verdict = 1
    · have t : Hid ((Qx ((l.map MtV.m).take (k + 1))).cells = #[.int .i64 n0, .int .i64 (n1 + 1), .int .i64 n2]) := by
       show _ = _;unfold Qx Sc.cells;simp only [g.out, h.out, j.out, h1];simp
      have n : x.m.verdict = 1 := h1;have c3 : Gx.cell? ⟨G, 3, none⟩ = some (.int .i64 1) := by rw [← n]; exact o
      have c4 : Gx.cell? ⟨C, 1, none⟩ = some (.int .i64 n1) := c.cellv (i := 1) rfl;clear h1 n o g h j Gs;go_wp2_with (refine Qp _ _ _ rfl ?_)
      refine Stop.to ?_;refine Qq rfl 3 _ _ rfl C 1 rfl (.int .i64 (n1 + 1)) (by first | rfl | (simp; done)) [.int .i64 (n1 + 1)] rfl 108 _ _ c (by kernel_rfl) (by simp) (by simp [Value.oneCell']) (Aks _ _ _ _) ?_
      intro W9 z p;have q := b.trans (p.below hC);have s := d.only p u;clear p c d b c3 c4;go_wp2_with fail
      go_roundw
      case rel => exact ⟨k + 1, by go_num, by omega, s, by rw [t.out]; exact z, q⟩
      case measure => simp [intOf]; omega
    by_cases h2 : x.m.verdict = 2
    · have t : Hid ((Qx ((l.map MtV.m).take (k + 1))).cells = #[.int .i64 n0, .int .i64 n1, .int .i64 (n2 + 1)]) := by
       show _ = _;unfold Qx Sc.cells;simp only [g.out, h.out, j.out, h2];simp
      have n : x.m.verdict = 2 := h2;have c3 : Gx.cell? ⟨G, 3, none⟩ = some (.int .i64 2) := by rw [← n]; exact o
      have c4 : Gx.cell? ⟨C, 2, none⟩ = some (.int .i64 n2) := c.cellv (i := 2) rfl;clear h2 n o g h j Gs;go_wp2_with (refine Qp _ _ _ rfl ?_)
      refine Stop.to ?_;refine Qq rfl 3 _ _ rfl C 2 rfl (.int .i64 (n2 + 1)) (by first | rfl | (simp; done)) [.int .i64 (n2 + 1)] rfl 108 _ _ c (by kernel_rfl) (by simp) (by simp [Value.oneCell']) (Akt _ _ _ _) ?_
      intro W9 z p;have q := b.trans (p.below hC);have s := d.only p u;clear p c d b c3 c4;go_wp2_with fail
      go_roundw
      case rel => exact ⟨k + 1, by go_num, by omega, s, by rw [t.out]; exact z, q⟩
      case measure => simp [intOf]; omega
    have t : Hid ((Qx ((l.map MtV.m).take (k + 1))).cells = #[.int .i64 n0, .int .i64 n1, .int .i64 n2]) := by
     show _ = _;unfold Qx Sc.cells;simp only [g.out, h.out, j.out, if_neg h0, if_neg h1, if_neg h2];simp
    clear g h j Gs;by_cases h3 : x.m.verdict < 0
    · clear h0 h1 h2;go_wp2_with fail
      go_roundw
      case rel => exact ⟨k + 1, by go_num, by omega, d, by rw [t.out]; exact c, b⟩
      case measure => simp [intOf]; omega
    · have h4 : 0 ≤ x.m.verdict := by omega
      have h5 : 3 ≤ x.m.verdict := by omega
      clear h0 h1 h2 h3;go_wp2_with fail
      go_roundw
      case rel => exact ⟨k + 1, by go_num, by omega, d, by rw [t.out]; exact c, b⟩
      case measure => simp [intOf]; omega
  · obtain rfl : k = l.length := by omega
    rw [show (l.map MtV.m).take l.length = l.map MtV.m from LA (by simp)] at c;have Hb := Lv (Ae8 (Qx (l.map MtV.m)) wr);clear hk y;go_wp2_with (refine wpList_load_row rfl 108 _ rfl C rfl 108 (Qx (l.map MtV.m)).cells (0, 0) _ c Tryz.underlying108 rfl (by kernel_rfl) ?_)
    refine Hb.out.mono ?_;rintro e w1 ⟨rfl, b3⟩;replace d := d.below b3 d.lt;replace b := b.trans (b3.mono b.size);clear b3 Hb c;go_wp2_with (refine Qp _ _ _ rfl ?_)
    refine Stop.to ?_;refine Qk rfl 36 _ _ rfl R (Qx (l.map MtV.m)).cells rfl rfl 36 _ d (by kernel_rfl) rfl (by simp [Value.oneCell', Sc.cells]) ?_;intro W9 z p;go_wp2_with fail
    refine bodyPost_ret (results_cell_row Tryz.results32 _ _ R 36 _ (0, 0) _ rfl z Tryz.underlying36 rfl (by kernel_rfl)) rfl ?_;exact ⟨rfl, b.trans (p.below hR)⟩
theorem AgL (A : Option Addr) (cap n : Nat) (l : List MtV) (w : World) (hn : n = l.length) (hr : Rd w A (J9 l)) (hl : l.length ≤ 1000000) (hok : ∀ x ∈ l, MtOk w x) :
 Calls Tryz.prog 44 #[.slice A n cap] w fun e w' => e = .returned (.bool (YX (l.map MtV.m))) ∧ Below w.heap.size w w' := by
 have Hn := Lv hn;have ai : (n : Int) ≤ 1000000 := by omega
 obtain ⟨S, g⟩ : ∃ S, S = (fun W => Rd W A (J9 l) ∧ (∀ x ∈ l, MtOk W x) ∧ Below w.heap.size w W) := ⟨_, rfl⟩;have aj : St S := by rw [g]; infer_instance
 have T1 : Hid (∀ W, S W → Rd W A (J9 l)) := by show ∀ W, _; rw [g]; exact fun W h => h.1
 have T2 : Hid (∀ W, S W → ∀ x ∈ l, MtOk W x) := by show ∀ W, _; rw [g]; exact fun W h => h.2.1
 have T4 : Hid (∀ W, S W → Below w.heap.size w W) := by show ∀ W, _; rw [g]; exact fun W h => h.2.2
 have b : S w := by rw [g]; exact ⟨hr, hok, Below.refl _ _⟩
 clear g hl hn hr hok;go_enter Tryz.func44, Tryz.ntmps44
 go_wp2_with fail
 go_loopw [6] (fun i wr => ∃ k : Nat, i = .int .i64 (k : Int) ∧ k ≤ n ∧ Hid (KL ((l.map MtV.m).take k)) ∧ S wr) (fun i _ => n - (intOf i).toNat)
 case atStart => exact ⟨0, by simp, Nat.zero_le _, Lv (by rw [LP]; trivial), b⟩
 case round =>
  clear b;obtain ⟨k, rfl, ag, v, b⟩ := hrel;by_cases z : k < n;rotate_left
  · have ac : ¬ ((k : Int) < (n : Int)) := by omega
    obtain rfl : k = n := by omega
    have s : Hid (YX (l.map MtV.m) = true) := by
     show _ = _;rw [riseB_iff];have := v.out;rwa [LA (by rw [Lz]; have := Hn.out; omega)] at this
    clear z v;go_wp2_with fail
    go_ret
    exact ⟨ZU s.out, T4.out _ b⟩
  have ah : (k : Int) < (n : Int) := by omega
  obtain ⟨y, hy⟩ : ∃ y, l[k]? = some y := ⟨_, La (by have := Hn.out; omega)⟩;have Hy := Lv hy;clear hy z;rcases Nat.eq_zero_or_pos k with h0 | h0
  · subst h0;have s : Hid (KL ((l.map MtV.m).take (0 + 1))) := AgK _;have e0 : ¬ ((0 : Int) < 0) := by omega
    clear v;go_wp2_with fail
    refine ZJ S (by kernel_rfl) (by kernel_rfl) (St.drew b) ?_;clear b
    iterate 3 (refine Qg rfl ?_ (fun W o => ?_) ?_; rotate_left; (focus (go_simp; exact rfl)); simp only [Act.put, Qa, Qb, Qc])
    iterate 13 (refine YO rfl ?_; simp only [Act.put, Qa, Qb, Qc])
    (refine Qg rfl ?_ (fun W o => ?_) ?_; rotate_left; (focus (go_simp; exact rfl)); simp only [Act.put, Qa, Qb, Qc]);refine QS fun W b => ?_
    go_wp2_with fail
    refine ⟨⟨0 + 1, by simp, by omega, s, b⟩, ?_⟩;simp only [intOf]; omega
  · obtain ⟨j, rfl⟩ : ∃ j, k = j + 1 := ⟨k - 1, by omega⟩;obtain ⟨x, hx⟩ : ∃ x, l[j]? = some x := ⟨_, La (by have := Hn.out; omega)⟩;have Hx := Lv hx;obtain ⟨ad, ab, _⟩ := Abg (T1.out _ b) hx;subst ab
    have Hc : Hid (∀ W, S W → ∀ i u, x.cells[i]? = some u → W.cell? ((ad.add (j * 8)).add i) = some u) := fun W h => by
     obtain ⟨aa, t, e2⟩ := Abg (T1.out W h) Hx.out;injection t with t; subst t; exact e2
    have Hd : Hid (∀ W, S W → ∀ i u, y.cells[i]? = some u → W.cell? ((ad.add ((j + 1) * 8)).add i) = some u) := fun W h => by
     obtain ⟨aa, t, e2⟩ := Abg (T1.out W h) Hy.out;injection t with t; subst t; exact e2
    have e0 : (0 : Int) < ((j + 1 : Nat) : Int) := by omega
    have ej : IntKind.i64.wrap (((j + 1 : Nat) : Int) - 1) = (j : Int) := by rw [show ((j + 1 : Nat) : Int) - 1 = (j : Int) by omega]; exact IntWalk.i64_in _ (by omega)
    have af : (j : Int) < (n : Int) := by omega
    have ae : (0 : Int) ≤ (j : Int) := by omega
    clear hx h0;go_wp2_with fail
    refine ZJ S (by kernel_rfl) (by kernel_rfl) (St.drew b) ?_;clear b
    iterate 5 (refine Qg rfl ?_ (fun W o => ?_) ?_; rotate_left; (focus (go_simp; exact rfl)); simp only [Act.put, Qa, Qb, Qc])
    (refine Qg rfl (.int .i64 (j : Int)) (fun W o => (by first | (go_simp; done) | (go_simp; exact IntWalk.i64_in _ (by omega)))) ?_; simp only [Act.put, Qa, Qb, Qc])
    iterate 2 (refine Qg rfl ?_ (fun W o => ?_) ?_; rotate_left; (focus (go_simp; exact rfl)); simp only [Act.put, Qa, Qb, Qc])
    (refine Zl rfl 50 _ rfl (_) rfl x.dl.cells.toList _ (fun W o => AfF (Hc.out W o)) Tryz.underlying50 rfl (by kernel_rfl) ?_; simp only [Act.put, Qa, Qb, Qc])
    iterate 4 (refine Qg rfl ?_ (fun W o => ?_) ?_; rotate_left; (focus (go_simp; exact rfl)); simp only [Act.put, Qa, Qb, Qc])
    (refine Zl rfl 50 _ rfl (_) rfl y.dl.cells.toList _ (fun W o => AfF (Hd.out W o)) Tryz.underlying50 rfl (by kernel_rfl) ?_; simp only [Act.put, Qa, Qb, Qc]);(refine QG rfl 55 _ (fun W => by (go_simp; try rfl)) (.int .i64 (Z8 x.m.d y.m.d)) (fun W o => U2 x.dl y.dl W (T2.out W o x (Lj Hx.out)).dl (T2.out W o y (Lj Hy.out)).dl) ?_; simp only [Act.put, Qa, Qb, Qc])
    iterate 2 (refine Qg rfl ?_ (fun W o => ?_) ?_; rotate_left; (focus (go_simp; exact rfl)); simp only [Act.put, Qa, Qb, Qc])
    refine QS fun W b => ?_
    obtain ⟨c, hc⟩ : ∃ c, c = Z8 x.m.d y.m.d := ⟨_, rfl⟩;rw [← hc];have p : (l.map MtV.m)[j]? = some x.m := by rw [L6, Hx.out]; rfl
    have q : (l.map MtV.m)[j + 1]? = some y.m := by rw [L6, Hy.out]; rfl
    by_cases h0 : 0 ≤ c
    · have s : Hid (YX (l.map MtV.m) = false) := by
       show _ = _
       have h1 : ¬ YX (l.map MtV.m) = true := fun h => by
        have := AgJ (riseB_iff.1 h) p q;omega
       simpa using h1
      clear v hc p q Hc Hd;go_wp2_with fail
      go_ret
      exact ⟨ZU s.out, T4.out _ b⟩
    · have s : Hid (KL ((l.map MtV.m).take (j + 1 + 1))) := Ye p q v.out (by omega);clear v hc p q Hc Hd;go_wp2_with fail
      refine ⟨⟨j + 1 + 1, by simp, by omega, s, b⟩, ?_⟩;simp only [intOf]; omega
end Go.Proofs.YtkoikjnlpifbjaaGreat
