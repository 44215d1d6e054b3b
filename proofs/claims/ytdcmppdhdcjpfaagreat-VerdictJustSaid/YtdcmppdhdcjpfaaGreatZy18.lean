/- Lemmas for VerdictJustP. -/
import Derived.Test.YtdcmppdhdcjpfaaGreatZy1
import Derived.Test.YtdcmppdhdcjpfaaGreatZy11
import Derived.Test.YtdcmppdhdcjpfaaGreatZy7
import Derived.Test.YtdcmppdhdcjpfaaGreatZy12
import Derived.Test.YtdcmppdhdcjpfaaGreatZy3
import Derived.Test.YtdcmppdhdcjpfaaGreatZy15
import Derived.Test.YtdcmppdhdcjpfaaGreatZy17
import Derived.Test.YtdcmppdhdcjpfaaGreatZy10
import Derived.Test.YtdcmppdhdcjpfaaGreatZy13
import Derived.OrdersHeld
set_option linter.unusedVariables false
set_option linter.unusedSimpArgs false
set_option maxRecDepth 100000
set_option maxHeartbeats 16000000
namespace Go.Proofs.YtdcmppdhdcjpfaaGreat
open Go.RowKit Go.Deep
theorem Ah3 {params fuel : Int} {ts : List (List Int)} (h : ts.length < 1 ∨ 20 < ts.length) : J8 params ts fuel = 18 := by unfold J8; rw [if_pos h]
theorem Ah4 {params fuel : Int} {ts : List (List Int)} {l : List Int} (hl : l ∈ ts) (h : ¬ (l.length : Int) = params) : J8 params ts fuel = 18 := by
 unfold J8;split
 · rfl
 · rw [if_neg (fun e => h (e l hl))]
theorem Ah5 {params fuel : Int} {ts : List (List Int)} (h : ¬ (ts.length < 1 ∨ 20 < ts.length)) (h2 : ∀ l ∈ ts, (l.length : Int) = params) : J8 params ts fuel = if fuel < 1 ∨ 10000 < fuel then 19 else 0 := by unfold J8; rw [if_neg h, if_pos h2]
def J9 (b : Bool) (e : Int) : Int := if b then 0 else e
theorem Jo (b : Bool) (n : Int) (w : World) : Calls Tryz.prog 132 #[.bool b, .int .i64 n] w fun e w' => e = .returned (.int .i64 (J9 b n)) ∧ w = w' := by
 cases b
 all_goals
  go_enter Tryz.func132, Tryz.ntmps132
  go_wp2
  go_ret
  exact ⟨rfl, rfl⟩
theorem Ai7 (P : Nat) (params : Int) (x : IntsV) (w : World) (hr : Row w P 3 #[.int .i64 params]) : Calls Tryz.prog 129 #[x.val, .pointer (some ⟨P, 0, none⟩)] w fun e w' => e = .returned (.bool ((x.l.length : Int) != params)) ∧ Below w.heap.size w w' := by
 have c := hr.cellv (i := 0) (v := .int .i64 params) rfl;rw [show x.val = .slice x.addr x.l.length x.cap from rfl];go_enter Tryz.func129, Tryz.ntmps129
 go_wp2
 go_ret
 exact ⟨rfl, Below.refl _ _⟩
theorem Af4 (P : Nat) (A : Option Addr) (cap : Nat) (l : List IntsV) (p : IntsV → Bool) (w : World) (S : World → Prop) [stS : St S] (hS : S w) (hrd : ∀ W, S W → Rd W A (Xf l)) (hlo : ∀ W, S W → Below w.heap.size w W)
 (hp : ∀ x ∈ l, ∀ W, S W → Calls Tryz.prog 129 #[.slice x.addr x.l.length x.cap, .pointer (some ⟨P, 0, none⟩)] W fun e W' => e = .returned (.bool (p x)) ∧ Below W.heap.size W W') (hl : l.length ≤ 1000000) :
 Calls Tryz.prog 209 #[.slice A l.length cap, .func (.func 129) #[] #[.pointer (some ⟨P, 0, none⟩)]] w fun e w' => e = .returned (.int .i64 (AcK p l)) ∧ Below w.heap.size w w' := by
 have z := Lh hp;have r := Lh hrd;have m := Lh hlo;have aa : (l.length : Int) ≤ 1000000 := by omega
 clear hp hrd hlo hl;go_enter Tryz.func209, Tryz.ntmps209
 go_wp2
 go_loopw [8] (fun i wr => ∃ k : Nat, i = .int .i64 (k : Int) ∧ k ≤ l.length ∧ Hid (∀ y ∈ l.take k, p y = false) ∧ S wr) (fun i _ => l.length - (intOf i).toNat)
 case atStart => exact ⟨0, rfl, Nat.zero_le _, Lh (fun x h => by simp at h), hS⟩
 case round =>
  clear hS;obtain ⟨k, rfl, hk, c, hS⟩ := hrel;by_cases g : k < l.length
  · obtain ⟨x, h⟩ : ∃ x, l[k]? = some x := ⟨_, Lb g⟩;obtain ⟨ad, s, o⟩ := JQ (r.out _ hS) h;have j : Hid (wr.cell? (ad.add k) = some (.slice x.addr x.l.length x.cap)) := o;have q := Lh h;have d := Lh (z.out x (Lg h) wr hS);have v : (k : Int) < (l.length : Int) := by omega
    clear h g o;subst s;(have t := j.out); go_wp2_with fail; clear t;refine d.out.mono ?_;rintro e w' ⟨rfl, u⟩;replace hS := stS.go hS u;clear u d j;cases hs : p x
    · have n := Lh (Yu c.out q.out hs);clear hs q;go_wp2_with fail
      go_roundw
      case rel => exact ⟨k + 1, by go_num, by omega, n, hS⟩
      case measure => simp [intOf]; omega
    · have n := Lh (AcM c.out q.out hs);clear hs q;go_wp2_with fail
      go_ret
      exact ⟨by rw [n.out]; rfl, m.out _ hS⟩
  · obtain rfl : k = l.length := by omega
    have n := Lh (Afh (p := p) (l := l) (by have := c.out; rwa [LS] at this));clear g hk;go_wp2
    go_ret
    exact ⟨by rw [n.out]; rfl, m.out _ hS⟩
theorem Aef (P : Nat) (A : Option Addr) (cap : Nat) (l : List IntsV) (p : IntsV → Bool) (w : World) (S : World → Prop) [stS : St S] (hS : S w) (hrd : ∀ W, S W → Rd W A (Xf l)) (hlo : ∀ W, S W → Below w.heap.size w W)
 (hp : ∀ x ∈ l, ∀ W, S W → Calls Tryz.prog 129 #[.slice x.addr x.l.length x.cap, .pointer (some ⟨P, 0, none⟩)] W fun e W' => e = .returned (.bool (p x)) ∧ Below W.heap.size W W') (hl : l.length ≤ 1000000) :
 Calls Tryz.prog 134 #[.slice A l.length cap, .func (.func 129) #[] #[.pointer (some ⟨P, 0, none⟩)]] w fun e w' => e = .returned (.bool (l.any p)) ∧ Below w.heap.size w w' := by
 have c := Lh (Af4 P A cap l p w S hS hrd hlo hp hl);clear hp hrd hlo hl hS;go_enter Tryz.func134, Tryz.ntmps134
 go_wp2_with fail
 refine c.out.mono ?_;rintro e w' ⟨rfl, g⟩;have d := Lh (AcL p l);clear c;go_wp2_with fail
 go_ret
 exact ⟨Z5 d.out.symm, g⟩
theorem Ah0 (T : Nat) (A : Option Addr) (n cap : Nat) (w : World) (hr : Row w T 46 #[.slice A n cap]) :
 Calls Tryz.prog 131 #[.pointer (some ⟨T, 0, none⟩)] w fun e w' => e = .returned (.int .i64 (J9 (decide (1 ≤ n ∧ n ≤ 20)) 18)) ∧ Below w.heap.size w w' := by
 have c := hr.cellv (i := 0) (v := .slice A n cap) rfl;by_cases g : 1 ≤ n
 · by_cases j : n ≤ 20
   · have h : (1 : Int) ≤ (n : Int) := by omega
     have k : decide ((n : Int) ≤ 20) = true := by simp; omega
     have d : Hid (decide (1 ≤ n ∧ n ≤ 20) = true) := by show _ = _; simp [g, j]
     clear g j;go_enter Tryz.func131, Tryz.ntmps131
     go_wp2_with fail
     refine (Jo _ _ _).mono ?_;rintro e w' ⟨rfl, rfl⟩;go_wp2_with fail
     go_ret
     exact ⟨by rw [d.out]; rfl, Below.refl _ _⟩
   · have h : (1 : Int) ≤ (n : Int) := by omega
     have k : decide ((n : Int) ≤ 20) = false := by simp; omega
     have d : Hid (decide (1 ≤ n ∧ n ≤ 20) = false) := by show _ = _; simp [j]
     clear g j;go_enter Tryz.func131, Tryz.ntmps131
     go_wp2_with fail
     refine (Jo _ _ _).mono ?_;rintro e w' ⟨rfl, rfl⟩;go_wp2_with fail
     go_ret
     exact ⟨by rw [d.out]; rfl, Below.refl _ _⟩
 · have h : (n : Int) < 1 := by omega
   have d : Hid (decide (1 ≤ n ∧ n ≤ 20) = false) := by show _ = _; simp [g]
   clear g;go_enter Tryz.func131, Tryz.ntmps131
   go_wp2_with fail
   refine (Jo _ _ _).mono ?_;rintro e w' ⟨rfl, rfl⟩;go_wp2_with fail
   go_ret
   exact ⟨by rw [d.out]; rfl, Below.refl _ _⟩
theorem Ah2 (F : Nat) (fuel : Int) (w : World) (hr : Row w F 3 #[.int .i64 fuel]) :
 Calls Tryz.prog 135 #[.pointer (some ⟨F, 0, none⟩)] w fun e w' => e = .returned (.int .i64 (J9 (decide (1 ≤ fuel ∧ fuel ≤ 10000)) 19)) ∧ Below w.heap.size w w' := by
 have c := hr.cellv (i := 0) (v := .int .i64 fuel) rfl;by_cases h : 1 ≤ fuel
 · by_cases g : fuel ≤ 10000
   · have j : decide (fuel ≤ 10000) = true := by simp; omega
     have d : Hid (decide (1 ≤ fuel ∧ fuel ≤ 10000) = true) := by show _ = _; simp [h, g]
     clear g;go_enter Tryz.func135, Tryz.ntmps135
     go_wp2_with fail
     refine (Jo _ _ _).mono ?_;rintro e w' ⟨rfl, rfl⟩;go_wp2_with fail
     go_ret
     exact ⟨by rw [d.out]; rfl, Below.refl _ _⟩
   · have j : decide (fuel ≤ 10000) = false := by simp; omega
     have d : Hid (decide (1 ≤ fuel ∧ fuel ≤ 10000) = false) := by show _ = _; simp [g]
     clear g;go_enter Tryz.func135, Tryz.ntmps135
     go_wp2_with fail
     refine (Jo _ _ _).mono ?_;rintro e w' ⟨rfl, rfl⟩;go_wp2_with fail
     go_ret
     exact ⟨by rw [d.out]; rfl, Below.refl _ _⟩
 · have k : fuel < 1 := by omega
   have d : Hid (decide (1 ≤ fuel ∧ fuel ≤ 10000) = false) := by show _ = _; simp [h]
   clear h;go_enter Tryz.func135, Tryz.ntmps135
   go_wp2_with fail
   refine (Jo _ _ _).mono ?_;rintro e w' ⟨rfl, rfl⟩;go_wp2_with fail
   go_ret
   exact ⟨by rw [d.out]; rfl, Below.refl _ _⟩
theorem Ah1 (T O P : Nat) (A : Option Addr) (cap : Nat) (l : List IntsV) (params : Int) (w : World) (hr : Rd w A (Xf l)) (hl : l.length ≤ 1000000) (rT : Row w T 46 #[.slice A l.length cap]) (rO : Row w O 195 #[.func (.func 129) #[] #[.pointer (some ⟨P, 0, none⟩)]]) (rP : Row w P 3 #[.int .i64 params]) :
 Calls Tryz.prog 133 #[.pointer (some ⟨T, 0, none⟩), .pointer (some ⟨O, 0, none⟩)] w fun e w' => e = .returned (.int .i64 (J9 (!l.any fun x => (x.l.length : Int) != params) 18)) ∧ Below w.heap.size w w' := by
 have k := rT.cellv (i := 0) (v := .slice A l.length cap) rfl;have m := rO.cellv (i := 0) (v := .func (.func 129) #[] #[.pointer (some ⟨P, 0, none⟩)]) rfl;have c := Lh (Aef P A cap l (fun x => (x.l.length : Int) != params) w (fun W => (Rd W A (Xf l) ∧ Row W P 3 #[.int .i64 params]) ∧ Below w.heap.size w W) ⟨⟨hr, rP⟩, Below.refl _ _⟩ (fun W h => h.1.1) (fun W h => h.2) (fun x _ W h => Ai7 P params x W h.1.2) hl);clear rT rO rP hr hl;go_enter Tryz.func133, Tryz.ntmps133
 go_wp2_with fail
 refine c.out.mono ?_;rintro e n ⟨rfl, j⟩;clear c k m;generalize d : (l.any fun x => (x.l.length : Int) != params) = b;have g := Lh d;clear d;cases b
 all_goals
  go_wp2_with fail
  refine (Jo _ _ _).mono ?_
  rintro e w' ⟨rfl, rfl⟩
  go_wp2_with fail
  go_ret
  exact ⟨by rw [g.out]; rfl, j⟩
theorem Af0 (M T O F : Nat) (e1 e2 e3 : Int) (w : World) (S S2 : World → Prop) [stS : St S] (hS : S w) (hs : ∀ W, S W → Row W M 164 #[.func (.func 131) #[] #[.pointer (some ⟨T, 0, none⟩)], .func (.func 133) #[] #[.pointer (some ⟨T, 0, none⟩), .pointer (some ⟨O, 0, none⟩)], .func (.func 135) #[] #[.pointer (some ⟨F, 0, none⟩)]] ∧ S2 W) (hlo : ∀ W, S W → Below w.heap.size w W)
 (h2 : ∀ W, S2 W → Calls Tryz.prog 131 #[.pointer (some ⟨T, 0, none⟩)] W fun e W' => e = .returned (.int .i64 e1) ∧ Below W.heap.size W W')
 (h3 : ∀ W, S2 W → Calls Tryz.prog 133 #[.pointer (some ⟨T, 0, none⟩), .pointer (some ⟨O, 0, none⟩)] W fun e W' => e = .returned (.int .i64 e2) ∧ Below W.heap.size W W')
 (h4 : ∀ W, S2 W → Calls Tryz.prog 135 #[.pointer (some ⟨F, 0, none⟩)] W fun e W' => e = .returned (.int .i64 e3) ∧ Below W.heap.size W W') :
 Calls Tryz.prog 130 #[.slice (some ⟨M, 0, none⟩) 3 3] w fun e w' => e = .returned (.int .i64 (orL [e1, e2, e3])) ∧ Below w.heap.size w w' := by
 have z := Lh h2;have H3 := Lh h3;have H4 := Lh h4;have s := Lh hs;have m := Lh hlo;clear h2 h3 h4 hs hlo;go_enter Tryz.func130, Tryz.ntmps130
 go_wp2
 go_loopw [8] (fun i wr => ∃ k : Nat, i = .int .i64 (k : Int) ∧ k ≤ 3 ∧ Hid (∀ j : Nat, j < k → ([e1, e2, e3] : List Int)[j]? = some 0) ∧ S wr) (fun i _ => 3 - (intOf i).toNat)
 case atStart => exact ⟨0, rfl, Nat.zero_le _, Lh (fun j x => by omega), hS⟩
 case round =>
  clear hS;obtain ⟨k, rfl, hk, n, hS⟩ := hrel;have y : k = 0 ∨ k = 1 ∨ k = 2 ∨ k = 3 := by omega
  clear hk;rcases y with rfl | rfl | rfl | rfl
  · skip;have c := (s.out _ hS).1;have t := c.cellv (i := 0) (v := .func (.func 131) #[] #[.pointer (some ⟨T, 0, none⟩)]) rfl;have o := Lh (z.out wr ((s.out _ hS).2));clear c;go_wp2_with fail
    refine o.out.mono ?_;rintro e w' ⟨rfl, p⟩;replace hS := stS.go hS p;clear t o p;by_cases d : e1 = 0
    · have h : (e1 != 0) = false := by simp [d]
      have g : Hid (∀ j : Nat, j < 0 + 1 → ([e1, e2, e3] : List Int)[j]? = some 0) := fun j x => by
       by_cases l : j < 0
       · exact n.out j l
       · obtain rfl : j = 0 := by omega
         simp [d]
      clear d;go_wp2_with fail
      go_roundw
      case rel => exact ⟨0 + 1, by go_num, by omega, g, hS⟩
      case measure => simp [intOf]
    · have h : (e1 != 0) = true := by simpa using d
      have r : Hid (orL [e1, e2, e3] = e1) := by
       show _ = _;simp [orL, d]
      clear d;go_wp2_with fail
      go_ret
      exact ⟨by rw [r.out]; rfl, m.out _ hS⟩
  · skip;have c := (s.out _ hS).1;have t := c.cellv (i := 1) (v := .func (.func 133) #[] #[.pointer (some ⟨T, 0, none⟩), .pointer (some ⟨O, 0, none⟩)]) rfl;have o := Lh (H3.out wr ((s.out _ hS).2));clear c;go_wp2_with fail
    refine o.out.mono ?_;rintro e w' ⟨rfl, p⟩;replace hS := stS.go hS p;clear t o p;by_cases d : e2 = 0
    · have h : (e2 != 0) = false := by simp [d]
      have g : Hid (∀ j : Nat, j < 1 + 1 → ([e1, e2, e3] : List Int)[j]? = some 0) := fun j x => by
       by_cases l : j < 1
       · exact n.out j l
       · obtain rfl : j = 1 := by omega
         simp [d]
      clear d;go_wp2_with fail
      go_roundw
      case rel => exact ⟨1 + 1, by go_num, by omega, g, hS⟩
      case measure => simp [intOf]
    · have h : (e2 != 0) = true := by simpa using d
      have r : Hid (orL [e1, e2, e3] = e2) := by
       show _ = _;have q := n.out 0 (by omega); simp at q; simp [orL, q, d]
      clear d;go_wp2_with fail
      go_ret
      exact ⟨by rw [r.out]; rfl, m.out _ hS⟩
  · skip;have c := (s.out _ hS).1;have t := c.cellv (i := 2) (v := .func (.func 135) #[] #[.pointer (some ⟨F, 0, none⟩)]) rfl;have o := Lh (H4.out wr ((s.out _ hS).2));clear c;go_wp2_with fail
    refine o.out.mono ?_;rintro e w' ⟨rfl, p⟩;replace hS := stS.go hS p;clear t o p;by_cases d : e3 = 0
    · have h : (e3 != 0) = false := by simp [d]
      have g : Hid (∀ j : Nat, j < 2 + 1 → ([e1, e2, e3] : List Int)[j]? = some 0) := fun j x => by
       by_cases l : j < 2
       · exact n.out j l
       · obtain rfl : j = 2 := by omega
         simp [d]
      clear d;go_wp2_with fail
      go_roundw
      case rel => exact ⟨2 + 1, by go_num, by omega, g, hS⟩
      case measure => simp [intOf]
    · have h : (e3 != 0) = true := by simpa using d
      have r : Hid (orL [e1, e2, e3] = e3) := by
       show _ = _;have q := n.out 0 (by omega); have u := n.out 1 (by omega); simp at q u; simp [orL, q, u, d]
      clear d;go_wp2_with fail
      go_ret
      exact ⟨by rw [r.out]; rfl, m.out _ hS⟩
  · have r : Hid (orL [e1, e2, e3] = 0) := by
     show _ = _;have q := n.out 0 (by omega);have u := n.out 1 (by omega);have h2 := n.out 2 (by omega);simp at q u h2;simp [orL, q, u, h2]
    go_wp2
    go_ret
    exact ⟨by rw [r.out]; rfl, m.out _ hS⟩
theorem AgE (params fuel : Int) (l : List IntsV) : orL [J9 (decide (1 ≤ l.length ∧ l.length ≤ 20)) 18, J9 (!l.any fun x => (x.l.length : Int) != params) 18, J9 (decide (1 ≤ fuel ∧ fuel ≤ 10000)) 19] = J8 params (l.map IntsV.l) fuel := by
 unfold J9;by_cases g : (l.map IntsV.l).length < 1 ∨ 20 < (l.map IntsV.l).length
 · rw [Ah3 g];rw [L9] at g;have : ¬ (1 ≤ l.length ∧ l.length ≤ 20) := by omega
   simp [orL, this]
 · by_cases j : ∀ t ∈ l.map IntsV.l, (t.length : Int) = params
   · rw [Ah5 g j];rw [L9] at g;have h : 1 ≤ l.length ∧ l.length ≤ 20 := by omega
     have i : (l.any fun x => (x.l.length : Int) != params) = false := by
      rw [List.any_eq_false];intro x d;have := j x.l (List.mem_map_of_mem d);simp [this]
     by_cases m : 1 ≤ fuel ∧ fuel ≤ 10000
     · have e : (if fuel < 1 ∨ 10000 < fuel then (19 : Int) else 0) = 0 := if_neg (by omega);rw [e]; simp [orL, h, i, m]
     · have e : (if fuel < 1 ∨ 10000 < fuel then (19 : Int) else 0) = 19 := if_pos (by omega);rw [e]; simp [orL, h, i, m]
   · have k : ∃ x ∈ l, ¬ (x.l.length : Int) = params := by
      refine Classical.byContradiction fun n => j fun t o => ?_
      obtain ⟨x, d, rfl⟩ := LN.1 o;exact Classical.byContradiction fun c => n ⟨x, d, c⟩
     obtain ⟨x, d, c⟩ := k;rw [Ah4 (List.mem_map_of_mem d) c];rw [L9] at g;have h : 1 ≤ l.length ∧ l.length ≤ 20 := by omega
     have i : (l.any fun x => (x.l.length : Int) != params) = true := by
      rw [List.any_eq_true];exact ⟨x, d, by simpa using c⟩
     simp [orL, h, i]
theorem Ail (w : World) : (zeroValue 195).run Tryz.prog w = .ok .nilFunc w := by kernel_rfl
theorem AiQ : (Tryz.prog.info? 164).map (fun i => (i.zero, i.size)) = some (some .nilFunc, 1) := by kernel_rfl
theorem AgF (params fuel : Int) (A : Option Addr) (cap : Nat) (l : List IntsV) (w : World) (hr : Rd w A (Xf l)) (hl : l.length ≤ 1000000) :
 Calls Tryz.prog 68 #[.int .i64 params, .slice A l.length cap, .int .i64 fuel] w fun e w' => e = .returned (.int .i64 (J8 params (l.map IntsV.l) fuel)) ∧ Below w.heap.size w w' := by
 have Hr := Lh hr;have Hl := Lh hl;clear hr hl;go_enter Tryz.func68, Tryz.ntmps68
 go_wp2_with (refine Qn _ _ rfl ?_)
 refine Stop.to ?_;refine Qe rfl 3 _ rfl #[.int .i64 params] rfl ?_;intro P Pw Ph o Pb;go_wp2_with (refine Qn _ _ rfl ?_)
 refine Stop.to ?_;refine Qe rfl 46 _ rfl #[.slice A l.length cap] rfl ?_;intro T Tw u Tr p;go_wp2_with (refine Qn _ _ rfl ?_)
 refine Stop.to ?_;refine Qe rfl 3 _ rfl #[.int .i64 fuel] rfl ?_;intro F Fw r Fr n;have g := (o.below p (Lc o.lt u)).below n (by have := o.lt; have := p.size; omega);have i := Tr.below n (Lc Tr.lt r);have d := Fr;have v := (Below.refl w.heap.size w).trans (Pb.mono Ph);have z := v.trans ((p.mono u).mono v.size);have b3 := z.trans ((n.mono r).mono z.size);clear o Tr Fr Pb p n Ph u r v z;go_wp2_with (refine QH _ rfl ?_)
 refine Stop.to ?_;refine Qj rfl 195 rfl _ _ (Ail _) rfl ?_;intro O Ow t Or Ob;go_wp2_with (refine Qs _ _ _ rfl ?_)
 refine Stop.to ?_;refine Qp rfl 195 _ _ rfl O 0 rfl (.func (.func 129) #[] #[.pointer (some ⟨P, 0, none⟩)]) rfl [.func (.func 129) #[] #[.pointer (some ⟨P, 0, none⟩)]] rfl 195 _ #[.func (.func 129) #[] #[.pointer (some ⟨P, 0, none⟩)]] Or (by kernel_rfl) (by show 0 + 1 ≤ 1; omega) (by simp [Value.oneCell']) rfl ?_;intro Ox m Oo;have k := (Ob.mono t).trans (Oo.below t);replace g := g.below k g.lt;replace i := i.below k i.lt;replace d := d.below k d.lt;have b4 := b3.trans (k.mono b3.size);clear Or Ob t Oo k b3;go_wp2_with (refine Zw _ _ _ rfl ?_)
 refine Stop.to ?_;refine Qv rfl 266 3 _ rfl 164 #[.func (.func 131) #[] #[.pointer (some ⟨T, 0, none⟩)], .func (.func 133) #[] #[.pointer (some ⟨T, 0, none⟩), .pointer (some ⟨O, 0, none⟩)], .func (.func 135) #[] #[.pointer (some ⟨F, 0, none⟩)]] (ZP Tryz.underlying266 AiQ (by decide) (by decide) (by kernel_rfl)) ?_;intro M s Mh Mr Mb;have j := Mb.mono Mh;replace g := g.below j g.lt;replace i := i.below j i.lt;replace d := d.below j d.lt;replace m := m.below j m.lt;have q := b4.trans (j.mono b4.size)
 have c := Af0 M T O F (J9 (decide (1 ≤ l.length ∧ l.length ≤ 20)) 18) (J9 (!l.any fun x => (x.l.length : Int) != params) 18) (J9 (decide (1 ≤ fuel ∧ fuel ≤ 10000)) 19) s
  (fun W => (Row W M 164 #[.func (.func 131) #[] #[.pointer (some ⟨T, 0, none⟩)], .func (.func 133) #[] #[.pointer (some ⟨T, 0, none⟩), .pointer (some ⟨O, 0, none⟩)], .func (.func 135) #[] #[.pointer (some ⟨F, 0, none⟩)]] ∧ (Rd W A (Xf l) ∧ Row W T 46 #[.slice A l.length cap] ∧ Row W O 195 #[.func (.func 129) #[] #[.pointer (some ⟨P, 0, none⟩)]] ∧ Row W P 3 #[.int .i64 params] ∧ Row W F 3 #[.int .i64 fuel])) ∧ Below s.heap.size s W)
  (fun W => Rd W A (Xf l) ∧ Row W T 46 #[.slice A l.length cap] ∧ Row W O 195 #[.func (.func 129) #[] #[.pointer (some ⟨P, 0, none⟩)]] ∧ Row W P 3 #[.int .i64 params] ∧ Row W F 3 #[.int .i64 fuel])
  ⟨⟨Mr, Hr.out.go q, i, m, g, d⟩, Below.refl _ _⟩ (fun W h => h.1) (fun W h => h.2)
  (fun W h => Ah0 T A l.length cap W h.2.1) (fun W h => Ah1 T O P A cap l params W h.1 Hl.out h.2.1 h.2.2.1 h.2.2.2.1) (fun W h => Ah2 F fuel W h.2.2.2.2)
 rw [AgE] at c;have Hf := Lh c;clear c g i d m Mr Mb j Mh b4;go_wp2_with fail
 refine Hf.out.mono ?_;rintro e w9 ⟨rfl, b9⟩;have y := q.trans (b9.mono q.size);clear Hf b9 q;go_wp2_with fail
 go_ret
 exact ⟨rfl, y⟩
attribute [local go_sem] Oper.semAt_some
theorem MtOk.kx {X : Nat → Prop} {W W' : World} {x : MtV} (h : MtOk W x) (k : KpX X W W') (s : Qi x.m.d.path ≠ [] → ∀ ad, x.A = some ad → ¬ X ad.block) : MtOk W' x := ⟨k.rd h.rd s, h.len, h.nil, h.dig⟩
end Go.Proofs.YtdcmppdhdcjpfaaGreat
namespace Go.Proofs.YtdcmppdhdcjpfaaGreat
open Go.RowKit Go.Deep
def MtT (W : World) (x : MtV) : Prop := MtOk W x ∧ IntB W x.A
theorem MtT.same {A B : World} {x : MtV} (h : MtT A x) (hb : ∀ (a : Addr) (cs : Array Value), x.A = some a → Row A a.block 3 cs → Row B a.block 3 cs) : MtT B x :=
 ⟨⟨fun j u hj => by
  obtain ⟨a, e, hc⟩ := h.1.rd j u hj
  obtain ⟨cs, hr⟩ := h.2 a e
  exact ⟨a, e, (World.cell?_of_block (by rw [JI]; exact (hb a cs e hr).trans (Eq.symm hr))).trans hc⟩, h.1.len, h.1.nil, h.1.dig⟩, fun a e => by
  obtain ⟨cs, hr⟩ := h.2 a e
  exact ⟨cs, hb a cs e hr⟩⟩
theorem MtT.go {A B : World} {x : MtV} (h : MtT A x) (b : Below A.heap.size A B) : MtT B x := h.same fun _ _ _ hr => hr.below b hr.lt
theorem MtT.abide {W W' : World} {x : MtV} {row : Option Nat} {q : Nat → Prop} (h : MtT W x) (hg : W.grownBy W' row) (hr : ∀ r, row = some r → False ∨ (q r ∧ ∃ o : Obj, W.heap[r]? = some o ∧ o.isCells = false)) : MtT W' x := h.same fun _ _ _ k => k.abide hg hr
theorem MtT.own {W W' : World} {x : MtV} {lim n : Nat} {v : Value} {xs : List Value} (h : MtT W x) (hown : W.ownsRow lim 54 8 v n xs) (hg : W.grownBy W' v.ownBlock) : MtT W' x := h.same fun _ _ _ k => k.grown hg (Qz hown k (by decide))
theorem MtT.only {W W' : World} {x : MtV} {g : Nat} {t : TypeId} {cs : Array Value} (h : MtT W x) (hr : Row W g t cs) (ht : t ≠ 3) (o : Only g W W') : MtT W' x := h.same fun a cs' _ k => k.only o (fun e => by
 have h1 : W.heap[g]? = some (.cells cs' 3 (0, 0)) := by rw [← e]; exact k
 rw [show W.heap[g]? = some (.cells cs t (0, 0)) from hr] at h1
 injection h1 with h1; injection h1 with _ h1; exact ht h1)
end Go.Proofs.YtdcmppdhdcjpfaaGreat
namespace Go.Proofs.YtdcmppdhdcjpfaaGreat
open Go.ChangeShapes Go.WideShapes Go.RowKit Go.Deep
theorem Acl : Tryz.prog.cellsOf 35 = 3 := by kernel_rfl
structure DlRaw (W : World) (x : DlV) : Prop where
 rd : Rd W x.A (Qi x.d.path)
 len : x.d.path.length ≤ x.cap
 cap : x.cap ≤ maxLen
 nil : x.A = none → x.cap = 0
 all : ∀ n ∈ x.d.path, InI n
 op : InI x.d.op
 n : InI x.d.n
theorem DlRaw.go {W W' : World} {x : DlV} (h : DlRaw W x) (b : Below W.heap.size W W') : DlRaw W' x := ⟨h.rd.go b, h.len, h.cap, h.nil, h.all, h.op, h.n⟩
instance St.dlraw {x : DlV} : St (fun W => DlRaw W x) := ⟨fun h b => h.go b⟩
theorem DlRaw.none {W : World} {x : DlV} (h : DlRaw W x) (e : x.A = none) : x.d.path = [] := Lx (by have := h.nil e; have := h.len; omega)
theorem DlRaw.ok {W : World} {x : DlV} (h : DlRaw W x) (hl : x.d.path.length ≤ 1000000) : DlOk W x := ⟨h.rd, hl⟩
section
variable {H : Type} {enc : TypeId × Value → H} {w : World} {base : Nat} {spare : Nat → Bool} {held : Bool}
theorem Adh {fuel : Nat} {cs : List Value} {x : DataW H × List MemPlace} (h : DataW.trod enc Tryz.prog w base spare held fuel 35 cs = some x) : ∃ x : DlV, DlRaw w x ∧ cs = x.cells.toList := by
 obtain ⟨q, n, e⟩ := Y4 Tryz.underlying35 h;have g : cs.length = 3 := q.trans Acl
 match cs, g with
 | [a, b, c], _ =>
  obtain ⟨_, m⟩ := e 0 _ rfl;obtain ⟨_, o⟩ := e 1 _ rfl;obtain ⟨_, p⟩ := e 2 _ rfl;obtain ⟨r, d, i⟩ := YZ m;obtain ⟨s, j, u⟩ := XM Tryz.underlying3 o;obtain ⟨t, k, v⟩ := XM Tryz.underlying3 p;simp [UN, VQ] at i j k;exact ⟨⟨r.addr, r.cap, ⟨r.l, s, t⟩⟩, ⟨d.reads, d.len, d.cap, d.nil, d.all, u, v⟩, by rw [i, j, k]; rfl⟩
theorem Adj {fuel : Nat} {cs : List Value} {x : DataW H × List MemPlace} (h : DataW.trod enc Tryz.prog w base spare held fuel 46 cs = some x) :
 ∃ (A : Option Addr) (cap : Nat) (l : List IntsV), cs = [.slice A l.length cap] ∧ l.length ≤ cap ∧ cap ≤ maxLen ∧ (A = none → cap = 0) ∧ Rd w A (Xf l) ∧ ∀ e ∈ l, e.ok w := by
 obtain ⟨A, cap, i, rfl, d, j, o, p, k, m⟩ := UX Tryz.underlying46 h;obtain ⟨l, rfl, c⟩ := Uz (fun x : IntsV => [x.val]) (fun x => x.ok w) i (fun t g => by obtain ⟨n, y, s⟩ := m t g; obtain ⟨r, q, e⟩ := YZ s; exact ⟨r, e, q⟩);rw [L9] at d;refine ⟨A, cap, l, by rw [L9], d, j, o, ?_, c⟩
 rw [show Xf l = (l.map fun x : IntsV => [x.val]).flatten from by
  clear d j o p k m c h
  induction l with
  | nil => rfl
  | cons x l ih => simp only [Xf, LE, List.flatten_cons, List.singleton_append] at ih ⊢; rw [← ih]]
 exact k
theorem AeD {r : Go.Reach} {b0 : Nat} {v : Value} {d : DataW H} {p : List MemPlace} (hv : Value.okWide Tryz.prog w r b0 35 v) (h : DataW.Trod enc Tryz.prog w base spare held 35 v d p) : ∃ x : DlV, DlRaw w x ∧ v = .agg x.cells := by
 obtain ⟨i, rfl, c, x, e⟩ := AdD Tryz.underlying35 hv h;obtain ⟨y, g, rfl⟩ := Adh e;exact ⟨y, g, rfl⟩
end
end Go.Proofs.YtdcmppdhdcjpfaaGreat
namespace Go.Proofs.YtdcmppdhdcjpfaaGreat
open Go.RowKit Go.Deep
def bodyE : List Nd := [⟨20, 1⟩, ⟨25, 0⟩, ⟨3, 0⟩]
def treeE : Tr := .node ⟨20, 1⟩ [.node ⟨25, 0⟩ [.node ⟨3, 0⟩ []]]
def pE (g1 g2 : Nat) : PgV := ⟨1, some ⟨g1, 0, none⟩, 1, [0], some ⟨g2, 0, none⟩, 3, bodyE⟩
theorem JX {W : World} {g : Nat} {t : TypeId} {cs : List Value} (h : Row W g t cs.toArray) : Rd W (some ⟨g, 0, none⟩) cs := Kz h
theorem AkI {g1 g2 : Nat} {W : World} (r1 : Row W g1 3 (Qi [0]).toArray) (r2 : Row W g2 85 (bodyE.flatMap Nd.cells).toArray) : (pE g1 g2).ok W :=
 ⟨by unfold InI pE; dsimp only; omega, by simp [pE], by unfold maxLen; simp [pE], fun h => (by cases h), JX r1, by simp [pE, InI], by simp [pE, bodyE], by unfold maxLen; simp [pE], fun h => (by cases h), JX r2, by simp [pE, bodyE, InI]⟩
theorem Aac : treeE.fits := by
 refine .mk _ _ (by rfl) (fun k c => ?_);rw [Ls.1 c];refine .mk _ _ (by rfl) (fun k c => ?_);rw [Ls.1 c];exact .mk _ _ (by rfl) (fun k c => by simp at c)
theorem Akx (g1 g2 : Nat) : Good (pE g1 g2) treeE := ⟨⟨Aac, [], by rfl⟩, by rfl, by show Kc 1 [0]; decide, rfl, by show ofT [0] treeE = 2; decide +kernel⟩
theorem El (g1 g2 : Nat) : Fine (pE g1 g2) treeE := ⟨Akx g1 g2, by simp [pE, bodyE], by show ∀ x ∈ bodyE, ¬ Qx x < 0; decide, by decide +kernel⟩
theorem XY : (Tryz.prog.info? 3).map (fun i => (i.zero, i.size)) = some (some (.int .i64 0), 1) := by kernel_rfl
theorem AiR : (Tryz.prog.info? 85).map (fun i => (i.zero, i.size)) = some (some (.agg #[.int .i64 0, .int .i64 0]), 2) := by kernel_rfl
theorem Ain {w : World} : (zeroValue 25).run Tryz.prog w = .ok (.agg #[.int .i64 0, .slice none 0 0, .slice none 0 0]) w := by kernel_rfl
theorem Ago (A B : Option Addr) (c d : Nat) (l : List Nd) (π : List Int) (w : World) (hr : Rd w A (l.flatMap Nd.cells)) (hl : l.length ≤ 1000) (hp : Rd w B (Qi π)) (hlp : π.length ≤ 1000000) :
 Calls Tryz.prog 116 #[.slice A l.length c, .slice B π.length d] w fun e w' => e = .returned (.int .i64 (K7 l π)) ∧ Below w.heap.size w w' := by
 obtain ⟨S, m⟩ : ∃ S, S = (fun W => Rd W A (l.flatMap Nd.cells) ∧ Rd W B (Qi π) ∧ Below w.heap.size w W) := ⟨_, rfl⟩;have y : St S := by rw [m]; infer_instance
 have T0 : Hid (∀ W, S W → Rd W A (l.flatMap Nd.cells)) := by show ∀ W, _; rw [m]; exact fun W h => h.1
 have T1 : Hid (∀ W, S W → Rd W B (Qi π)) := by show ∀ W, _; rw [m]; exact fun W h => h.2.1
 have z : Hid (∀ W, S W → Below w.heap.size w W) := by show ∀ W, _; rw [m]; exact fun W h => h.2.2
 have g : S w := by rw [m]; exact ⟨hr, hp, Below.refl _ _⟩
 have He := Lh (Jq A c l (0 : Int) w hr hl);have Hl := Lh hl;have ak : (l.length : Int) ≤ 1000 := by omega
 have al : (π.length : Int) ≤ 1000000 := by omega
 clear m hr hp hl hlp;go_enter Tryz.func116, Tryz.ntmps116
 go_wp2_with fail
 go_step3
 go_wp2_with fail
 refine He.out.mono ?_;rintro e w1 ⟨rfl, b1⟩;replace g := y.go g b1;clear He b1;by_cases o : endZ l 0 = (l.length : Int);rotate_left
 · have af : (endZ l 0 != (l.length : Int)) = true := by simpa using o
   have t : K7 l π = -1 := if_neg o;have q := Lh t.symm;clear o t;go_wp2_with fail
   try rw [Exit.noGoto_ret]
   go_ret
   exact ⟨ZN q.out, z.out _ g⟩
 have af : (endZ l 0 != (l.length : Int)) = false := by simpa using o
 have t : K7 l π = XN l 0 π := if_pos o;have q := Lh t;clear o t;go_wp2_with fail
 go_step3
 go_wp2_with fail
 go_loopw [5, 16] (fun ac i wr => ∃ (a : Int) (k : Nat), ac = .int .i64 a ∧ i = .int .i64 (k : Int) ∧ k ≤ π.length ∧ Hid (K7 l π = XN l a (π.drop k)) ∧ S wr) (fun _ i _ => π.length - (intOf i).toNat)
 case atStart => exact ⟨0, 0, rfl, by simp, Nat.zero_le _, q.out, g⟩
 case round =>
  clear g q;obtain ⟨a, k, rfl, rfl, ai, r, g⟩ := hrel;by_cases u : k < π.length;rotate_left
  · have ag : ¬ ((k : Int) < (π.length : Int)) := by omega
    obtain rfl : k = π.length := by omega
    have q : Hid (K7 l π = a) := by have := r.out; rw [List.drop_length] at this; exact this
    clear u r;go_wp2_with fail
    try rw [Exit.noGoto_ret]
    go_ret
    exact ⟨ZN q.out.symm, z.out _ g⟩
  obtain ⟨i, hi⟩ : ∃ i, π[k]? = some i := ⟨_, Lb (by omega)⟩;obtain ⟨bd, ad, c0⟩ := Q9 (T1.out _ g) hi;subst ad;have aj : (k : Int) < (π.length : Int) := by omega
  have Hi := Lh hi;have p := Lh (Yn A c l a wr (T0.out _ g) Hl.out);clear hi u;go_wp2_with fail
  refine p.out.mono ?_;rintro e w2 ⟨v, rfl, s, b2⟩;obtain ⟨C, cc, rfl, x, -, -, -⟩ := X4 s;replace g := y.go g b2;have aa := Lh x;clear p b2 s x c0;obtain ⟨n, hn⟩ : ∃ n, n = (kidsZ l a).length := ⟨_, rfl⟩;have Hn := Lh hn;rw [← hn];clear hn;by_cases h0 : i < 0
  · have q : Hid (K7 l π = -1) := by rw [Hid, r.out]; exact Abc Hi.out (Or.inl h0)
    clear r;go_wp2_with fail
    try rw [Exit.noGoto_ret]
    go_ret
    exact ⟨ZN q.out.symm, z.out _ g⟩
  by_cases h1 : (n : Int) ≤ i
  · have q : Hid (K7 l π = -1) := by rw [Hid, r.out]; exact Abc Hi.out (Or.inr (by rw [← Hn.out]; exact h1))
    clear r;go_wp2_with fail
    try rw [Exit.noGoto_ret]
    go_ret
    exact ⟨ZN q.out.symm, z.out _ g⟩
  obtain ⟨j, rfl⟩ : ∃ j : Nat, i = (j : Int) := ⟨i.toNat, by omega⟩;obtain ⟨b, hb⟩ : ∃ b, (kidsZ l a)[j]? = some b := ⟨_, Lb (by have := Hn.out; omega)⟩;obtain ⟨cd, ae, c2⟩ := Q9 aa.out hb;subst ae;have ab : Hid (K7 l π = XN l b (π.drop (k + 1))) := by rw [Hid, r.out]; exact Aif Hi.out hb
  have ah : (j : Int) < (n : Int) := by omega
  clear r hb;go_wp2_with fail
  refine ⟨⟨b, k + 1, rfl, by simp, by omega, ab, g⟩, ?_⟩;simp only [intOf]; omega
end Go.Proofs.YtdcmppdhdcjpfaaGreat
