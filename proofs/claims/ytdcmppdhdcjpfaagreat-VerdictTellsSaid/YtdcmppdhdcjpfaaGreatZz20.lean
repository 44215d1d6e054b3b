/- Lemmas for VerdictTellsP. -/
import Derived.Test.YtdcmppdhdcjpfaaGreatZz1
import Derived.Test.YtdcmppdhdcjpfaaGreatZz13
import Derived.Test.YtdcmppdhdcjpfaaGreatZz9
import Derived.Test.YtdcmppdhdcjpfaaGreatZz14
import Derived.Test.YtdcmppdhdcjpfaaGreatZz3
import Derived.Test.YtdcmppdhdcjpfaaGreatZz17
import Derived.Test.YtdcmppdhdcjpfaaGreatZz19
import Derived.Test.YtdcmppdhdcjpfaaGreatZz10
import Derived.Test.YtdcmppdhdcjpfaaGreatZz12
import Derived.Test.YtdcmppdhdcjpfaaGreatZz15
import Derived.OrdersHeld
set_option linter.unusedVariables false
set_option linter.unusedSimpArgs false
set_option maxRecDepth 100000
set_option maxHeartbeats 16000000
namespace Go.Proofs.YtdcmppdhdcjpfaaGreat
open Go.RowKit Go.Deep
theorem Aak {params fuel : Int} {ts : List (List Int)} (h : ts.length < 1 ∨ 20 < ts.length) : Jl params ts fuel = 18 := by unfold Jl; rw [if_pos h]
theorem Adt {params fuel : Int} {ts : List (List Int)} {l : List Int} (hl : l ∈ ts) (h : ¬ (l.length : Int) = params) : Jl params ts fuel = 18 := by
 unfold Jl;split
 · rfl
 · rw [if_neg (fun e => h (e l hl))]
theorem Adu {params fuel : Int} {ts : List (List Int)} (h : ¬ (ts.length < 1 ∨ 20 < ts.length)) (h2 : ∀ l ∈ ts, (l.length : Int) = params) : Jl params ts fuel = if fuel < 1 ∨ 10000 < fuel then 19 else 0 := by unfold Jl; rw [if_neg h, if_pos h2]
theorem AbQ (params fuel : Int) (A : Option Addr) (cap : Nat) (l : List IntsV) (w : World) (hr : Rd w A (Ka l)) (hl : l.length ≤ 1000000) :
 Calls Tryz.prog 71 #[.int .i64 params, .slice A l.length cap, .int .i64 fuel] w fun e w' => e = .returned (.int .i64 (Jl params (l.map IntsV.l) fuel)) ∧ w = w' := by
 have Hr := Lh hr;clear hr;by_cases o : l.length < 1
 · have c := Lh (Aak (params := params) (fuel := fuel) (ts := l.map IntsV.l) (.inl (by simpa using o)));have m : (l.length : Int) < 1 := by omega
   clear o;go_enter Tryz.func71, Tryz.ntmps71
   go_wp2
   go_ret
   exact ⟨Qo c.out, rfl⟩
 by_cases r : 20 < l.length
 · have c := Lh (Aak (params := params) (fuel := fuel) (ts := l.map IntsV.l) (.inr (by simpa using r)));have m : 1 ≤ (l.length : Int) := by omega
   have s : (20 : Int) < (l.length : Int) := by omega
   clear o r;go_enter Tryz.func71, Tryz.ntmps71
   go_wp2
   go_ret
   exact ⟨Qo c.out, rfl⟩
 have m : 1 ≤ (l.length : Int) := by omega
 have s : (l.length : Int) ≤ 20 := by omega
 have Hn : Hid (¬ ((l.map IntsV.l).length < 1 ∨ 20 < (l.map IntsV.l).length)) := by show ¬ _; rw [L3]; omega
 clear o r;go_enter Tryz.func71, Tryz.ntmps71
 go_wp2
 go_loop [7] (fun i => ∃ k : Nat, i = .int .i64 (k : Int) ∧ k ≤ l.length ∧ Hid (∀ x ∈ l.take k, (x.l.length : Int) = params)) (fun i => l.length - (intOf i).toNat)
 case atStart => exact ⟨0, rfl, Nat.zero_le _, Lh (fun x h => by simp at h)⟩
 case round =>
  obtain ⟨k, rfl, hk, d⟩ := hrel;by_cases g : k < l.length
  · obtain ⟨x, h⟩ : ∃ x, l[k]? = some x := ⟨_, La g⟩;obtain ⟨ad, y, n⟩ := KU Hr.out h;have hc : w.cell? (ad.add k) = some (.slice x.addr x.l.length x.cap) := n;have Hx := Lh h;have aa : (k : Int) < (l.length : Int) := by omega
    clear h g n;subst y;by_cases j : (x.l.length : Int) = params
    · have z : ((x.l.length : Int) != params) = false := by simpa using j
      have q := Lh (YI (p := fun x : IntsV => (x.l.length : Int) = params) d.out Hx.out j);clear j;go_wp2
      go_round
      case rel => exact ⟨k + 1, by go_num, by omega, q⟩
      case measure => simp [intOf]; omega
    · have z : ((x.l.length : Int) != params) = true := by simpa using j
      have c := Lh (Adt (params := params) (fuel := fuel) (ts := l.map IntsV.l) (Nx (Lf Hx.out)) j);clear j;go_wp2
      go_ret
      exact ⟨Qo c.out, rfl⟩
  · obtain rfl : k = l.length := by omega
    have c := Lh (Adu (params := params) (fuel := fuel) Hn.out (fun t ht => by
     obtain ⟨x, h, rfl⟩ := LJ.1 ht
     have := d.out; rw [LO] at this; exact this x h))
    clear g hk;by_cases u : fuel < 1
    · have b : Hid (Jl params (l.map IntsV.l) fuel = 19) := by show _ = _; rw [c.out, if_pos (.inl u)]
      go_wp2
      go_ret
      exact ⟨Qo b.out, rfl⟩
    by_cases h4 : 10000 < fuel
    · have b : Hid (Jl params (l.map IntsV.l) fuel = 19) := by show _ = _; rw [c.out, if_pos (.inr h4)]
      have v : 1 ≤ fuel := by omega
      clear u;go_wp2
      go_ret
      exact ⟨Qo b.out, rfl⟩
    · have b : Hid (Jl params (l.map IntsV.l) fuel = 0) := by show _ = _; rw [c.out, if_neg (by omega)]
      have v : 1 ≤ fuel := by omega
      have ab : fuel ≤ 10000 := by omega
      clear u h4;go_wp2
      go_ret
      exact ⟨Qo b.out, rfl⟩
def Kc (b : Bool) (e : Int) : Int := if b then 0 else e
theorem JA (b : Bool) (n : Int) (w : World) : Calls Tryz.prog 132 #[.bool b, .int .i64 n] w fun e w' => e = .returned (.int .i64 (Kc b n)) ∧ w = w' := by
 cases b
 all_goals
  go_enter Tryz.func132, Tryz.ntmps132
  go_wp2
  go_ret
  exact ⟨rfl, rfl⟩
theorem Aik (P : Nat) (params : Int) (x : IntsV) (w : World) (hr : Row w P 3 #[.int .i64 params]) : Calls Tryz.prog 129 #[x.val, .pointer (some ⟨P, 0, none⟩)] w fun e w' => e = .returned (.bool ((x.l.length : Int) != params)) ∧ Below w.heap.size w w' := by
 have c := hr.cellv (i := 0) (v := .int .i64 params) rfl;rw [show x.val = .slice x.addr x.l.length x.cap from rfl];go_enter Tryz.func129, Tryz.ntmps129
 go_wp2
 go_ret
 exact ⟨rfl, Below.refl _ _⟩
theorem AfQ (P : Nat) (A : Option Addr) (cap : Nat) (l : List IntsV) (p : IntsV → Bool) (w : World) (S : World → Prop) [stS : St S] (hS : S w) (hrd : ∀ W, S W → Rd W A (Ka l)) (hlo : ∀ W, S W → Below w.heap.size w W)
 (hp : ∀ x ∈ l, ∀ W, S W → Calls Tryz.prog 129 #[.slice x.addr x.l.length x.cap, .pointer (some ⟨P, 0, none⟩)] W fun e W' => e = .returned (.bool (p x)) ∧ Below W.heap.size W W') (hl : l.length ≤ 1000000) :
 Calls Tryz.prog 209 #[.slice A l.length cap, .func (.func 129) #[] #[.pointer (some ⟨P, 0, none⟩)]] w fun e w' => e = .returned (.int .i64 (AcH p l)) ∧ Below w.heap.size w w' := by
 have v := Lh hp;have q := Lh hrd;have j := Lh hlo;have aa : (l.length : Int) ≤ 1000000 := by omega
 clear hp hrd hlo hl;go_enter Tryz.func209, Tryz.ntmps209
 go_wp2
 go_loopw [8] (fun i wr => ∃ k : Nat, i = .int .i64 (k : Int) ∧ k ≤ l.length ∧ Hid (∀ y ∈ l.take k, p y = false) ∧ S wr) (fun i _ => l.length - (intOf i).toNat)
 case atStart => exact ⟨0, rfl, Nat.zero_le _, Lh (fun x g => by simp at g), hS⟩
 case round =>
  clear hS;obtain ⟨k, rfl, hk, b, hS⟩ := hrel;by_cases d : k < l.length
  · obtain ⟨x, g⟩ : ∃ x, l[k]? = some x := ⟨_, La d⟩;obtain ⟨z, r, n⟩ := KU (q.out _ hS) g;have h : Hid (wr.cell? (z.add k) = some (.slice x.addr x.l.length x.cap)) := n;have o := Lh g;have c := Lh (v.out x (Lf g) wr hS);have u : (k : Int) < (l.length : Int) := by omega
    clear g d n;subst r;(have s := h.out); go_wp2_with fail; clear s;refine c.out.mono ?_;rintro e w' ⟨rfl, t⟩;replace hS := stS.go hS t;clear t c h;cases hs : p x
    · have m := Lh (Yr b.out o.out hs);clear hs o;go_wp2_with fail
      go_roundw
      case rel => exact ⟨k + 1, by go_num, by omega, m, hS⟩
      case measure => simp [intOf]; omega
    · have m := Lh (AcJ b.out o.out hs);clear hs o;go_wp2_with fail
      go_ret
      exact ⟨by rw [m.out]; rfl, j.out _ hS⟩
  · obtain rfl : k = l.length := by omega
    have m := Lh (Afa (p := p) (l := l) (by have := b.out; rwa [LO] at this));clear d hk;go_wp2
    go_ret
    exact ⟨by rw [m.out]; rfl, j.out _ hS⟩
theorem Aec (P : Nat) (A : Option Addr) (cap : Nat) (l : List IntsV) (p : IntsV → Bool) (w : World) (S : World → Prop) [stS : St S] (hS : S w) (hrd : ∀ W, S W → Rd W A (Ka l)) (hlo : ∀ W, S W → Below w.heap.size w W)
 (hp : ∀ x ∈ l, ∀ W, S W → Calls Tryz.prog 129 #[.slice x.addr x.l.length x.cap, .pointer (some ⟨P, 0, none⟩)] W fun e W' => e = .returned (.bool (p x)) ∧ Below W.heap.size W W') (hl : l.length ≤ 1000000) :
 Calls Tryz.prog 134 #[.slice A l.length cap, .func (.func 129) #[] #[.pointer (some ⟨P, 0, none⟩)]] w fun e w' => e = .returned (.bool (l.any p)) ∧ Below w.heap.size w w' := by
 have b := Lh (AfQ P A cap l p w S hS hrd hlo hp hl);clear hp hrd hlo hl hS;go_enter Tryz.func134, Tryz.ntmps134
 go_wp2_with fail
 refine b.out.mono ?_;rintro e w' ⟨rfl, d⟩;have c := Lh (AcI p l);clear b;go_wp2_with fail
 go_ret
 exact ⟨Z4 c.out.symm, d⟩
theorem Ahs (T : Nat) (A : Option Addr) (n cap : Nat) (w : World) (hr : Row w T 46 #[.slice A n cap]) :
 Calls Tryz.prog 131 #[.pointer (some ⟨T, 0, none⟩)] w fun e w' => e = .returned (.int .i64 (Kc (decide (1 ≤ n ∧ n ≤ 20)) 18)) ∧ Below w.heap.size w w' := by
 have c := hr.cellv (i := 0) (v := .slice A n cap) rfl;by_cases d : 1 ≤ n
 · by_cases h : n ≤ 20
   · have g : (1 : Int) ≤ (n : Int) := by omega
     have j : decide ((n : Int) ≤ 20) = true := by simp; omega
     have b : Hid (decide (1 ≤ n ∧ n ≤ 20) = true) := by show _ = _; simp [d, h]
     clear d h;go_enter Tryz.func131, Tryz.ntmps131
     go_wp2_with fail
     refine (JA _ _ _).mono ?_;rintro e w' ⟨rfl, rfl⟩;go_wp2_with fail
     go_ret
     exact ⟨by rw [b.out]; rfl, Below.refl _ _⟩
   · have g : (1 : Int) ≤ (n : Int) := by omega
     have j : decide ((n : Int) ≤ 20) = false := by simp; omega
     have b : Hid (decide (1 ≤ n ∧ n ≤ 20) = false) := by show _ = _; simp [h]
     clear d h;go_enter Tryz.func131, Tryz.ntmps131
     go_wp2_with fail
     refine (JA _ _ _).mono ?_;rintro e w' ⟨rfl, rfl⟩;go_wp2_with fail
     go_ret
     exact ⟨by rw [b.out]; rfl, Below.refl _ _⟩
 · have g : (n : Int) < 1 := by omega
   have b : Hid (decide (1 ≤ n ∧ n ≤ 20) = false) := by show _ = _; simp [d]
   clear d;go_enter Tryz.func131, Tryz.ntmps131
   go_wp2_with fail
   refine (JA _ _ _).mono ?_;rintro e w' ⟨rfl, rfl⟩;go_wp2_with fail
   go_ret
   exact ⟨by rw [b.out]; rfl, Below.refl _ _⟩
theorem Ahu (F : Nat) (fuel : Int) (w : World) (hr : Row w F 3 #[.int .i64 fuel]) :
 Calls Tryz.prog 135 #[.pointer (some ⟨F, 0, none⟩)] w fun e w' => e = .returned (.int .i64 (Kc (decide (1 ≤ fuel ∧ fuel ≤ 10000)) 19)) ∧ Below w.heap.size w w' := by
 have c := hr.cellv (i := 0) (v := .int .i64 fuel) rfl;by_cases g : 1 ≤ fuel
 · by_cases d : fuel ≤ 10000
   · have h : decide (fuel ≤ 10000) = true := by simp; omega
     have b : Hid (decide (1 ≤ fuel ∧ fuel ≤ 10000) = true) := by show _ = _; simp [g, d]
     clear d;go_enter Tryz.func135, Tryz.ntmps135
     go_wp2_with fail
     refine (JA _ _ _).mono ?_;rintro e w' ⟨rfl, rfl⟩;go_wp2_with fail
     go_ret
     exact ⟨by rw [b.out]; rfl, Below.refl _ _⟩
   · have h : decide (fuel ≤ 10000) = false := by simp; omega
     have b : Hid (decide (1 ≤ fuel ∧ fuel ≤ 10000) = false) := by show _ = _; simp [d]
     clear d;go_enter Tryz.func135, Tryz.ntmps135
     go_wp2_with fail
     refine (JA _ _ _).mono ?_;rintro e w' ⟨rfl, rfl⟩;go_wp2_with fail
     go_ret
     exact ⟨by rw [b.out]; rfl, Below.refl _ _⟩
 · have j : fuel < 1 := by omega
   have b : Hid (decide (1 ≤ fuel ∧ fuel ≤ 10000) = false) := by show _ = _; simp [g]
   clear g;go_enter Tryz.func135, Tryz.ntmps135
   go_wp2_with fail
   refine (JA _ _ _).mono ?_;rintro e w' ⟨rfl, rfl⟩;go_wp2_with fail
   go_ret
   exact ⟨by rw [b.out]; rfl, Below.refl _ _⟩
theorem Aht (T O P : Nat) (A : Option Addr) (cap : Nat) (l : List IntsV) (params : Int) (w : World) (hr : Rd w A (Ka l)) (hl : l.length ≤ 1000000) (rT : Row w T 46 #[.slice A l.length cap]) (rO : Row w O 195 #[.func (.func 129) #[] #[.pointer (some ⟨P, 0, none⟩)]]) (rP : Row w P 3 #[.int .i64 params]) :
 Calls Tryz.prog 133 #[.pointer (some ⟨T, 0, none⟩), .pointer (some ⟨O, 0, none⟩)] w fun e w' => e = .returned (.int .i64 (Kc (!l.any fun x => (x.l.length : Int) != params) 18)) ∧ Below w.heap.size w w' := by
 have k := rT.cellv (i := 0) (v := .slice A l.length cap) rfl;have m := rO.cellv (i := 0) (v := .func (.func 129) #[] #[.pointer (some ⟨P, 0, none⟩)]) rfl;have c := Lh (Aec P A cap l (fun x => (x.l.length : Int) != params) w (fun W => (Rd W A (Ka l) ∧ Row W P 3 #[.int .i64 params]) ∧ Below w.heap.size w W) ⟨⟨hr, rP⟩, Below.refl _ _⟩ (fun W h => h.1.1) (fun W h => h.2) (fun x _ W h => Aik P params x W h.1.2) hl);clear rT rO rP hr hl;go_enter Tryz.func133, Tryz.ntmps133
 go_wp2_with fail
 refine c.out.mono ?_;rintro e n ⟨rfl, j⟩;clear c k m;generalize d : (l.any fun x => (x.l.length : Int) != params) = b;have g := Lh d;clear d;cases b
 all_goals
  go_wp2_with fail
  refine (JA _ _ _).mono ?_
  rintro e w' ⟨rfl, rfl⟩
  go_wp2_with fail
  go_ret
  exact ⟨by rw [g.out]; rfl, j⟩
theorem AfM (M T O F : Nat) (e1 e2 e3 : Int) (w : World) (S S2 : World → Prop) [stS : St S] (hS : S w) (hs : ∀ W, S W → Row W M 164 #[.func (.func 131) #[] #[.pointer (some ⟨T, 0, none⟩)], .func (.func 133) #[] #[.pointer (some ⟨T, 0, none⟩), .pointer (some ⟨O, 0, none⟩)], .func (.func 135) #[] #[.pointer (some ⟨F, 0, none⟩)]] ∧ S2 W) (hlo : ∀ W, S W → Below w.heap.size w W)
 (h2 : ∀ W, S2 W → Calls Tryz.prog 131 #[.pointer (some ⟨T, 0, none⟩)] W fun e W' => e = .returned (.int .i64 e1) ∧ Below W.heap.size W W')
 (h3 : ∀ W, S2 W → Calls Tryz.prog 133 #[.pointer (some ⟨T, 0, none⟩), .pointer (some ⟨O, 0, none⟩)] W fun e W' => e = .returned (.int .i64 e2) ∧ Below W.heap.size W W')
 (h4 : ∀ W, S2 W → Calls Tryz.prog 135 #[.pointer (some ⟨F, 0, none⟩)] W fun e W' => e = .returned (.int .i64 e3) ∧ Below W.heap.size W W') :
 Calls Tryz.prog 130 #[.slice (some ⟨M, 0, none⟩) 3 3] w fun e w' => e = .returned (.int .i64 (orL [e1, e2, e3])) ∧ Below w.heap.size w w' := by
 have y := Lh h2;have z := Lh h3;have H4 := Lh h4;have r := Lh hs;have l := Lh hlo;clear h2 h3 h4 hs hlo;go_enter Tryz.func130, Tryz.ntmps130
 go_wp2
 go_loopw [8] (fun i wr => ∃ k : Nat, i = .int .i64 (k : Int) ∧ k ≤ 3 ∧ Hid (∀ j : Nat, j < k → ([e1, e2, e3] : List Int)[j]? = some 0) ∧ S wr) (fun i _ => 3 - (intOf i).toNat)
 case atStart => exact ⟨0, rfl, Nat.zero_le _, Lh (fun j u => by omega), hS⟩
 case round =>
  clear hS;obtain ⟨k, rfl, hk, m, hS⟩ := hrel;have x : k = 0 ∨ k = 1 ∨ k = 2 ∨ k = 3 := by omega
  clear hk;rcases x with rfl | rfl | rfl | rfl
  · skip;have b := (r.out _ hS).1;have s := b.cellv (i := 0) (v := .func (.func 131) #[] #[.pointer (some ⟨T, 0, none⟩)]) rfl;have n := Lh (y.out wr ((r.out _ hS).2));clear b;go_wp2_with fail
    refine n.out.mono ?_;rintro e w' ⟨rfl, o⟩;replace hS := stS.go hS o;clear s n o;by_cases c : e1 = 0
    · have g : (e1 != 0) = false := by simp [c]
      have d : Hid (∀ j : Nat, j < 0 + 1 → ([e1, e2, e3] : List Int)[j]? = some 0) := fun j u => by
       by_cases h : j < 0
       · exact m.out j h
       · obtain rfl : j = 0 := by omega
         simp [c]
      clear c;go_wp2_with fail
      go_roundw
      case rel => exact ⟨0 + 1, by go_num, by omega, d, hS⟩
      case measure => simp [intOf]
    · have g : (e1 != 0) = true := by simpa using c
      have q : Hid (orL [e1, e2, e3] = e1) := by
       show _ = _;simp [orL, c]
      clear c;go_wp2_with fail
      go_ret
      exact ⟨by rw [q.out]; rfl, l.out _ hS⟩
  · skip;have b := (r.out _ hS).1;have s := b.cellv (i := 1) (v := .func (.func 133) #[] #[.pointer (some ⟨T, 0, none⟩), .pointer (some ⟨O, 0, none⟩)]) rfl;have n := Lh (z.out wr ((r.out _ hS).2));clear b;go_wp2_with fail
    refine n.out.mono ?_;rintro e w' ⟨rfl, o⟩;replace hS := stS.go hS o;clear s n o;by_cases c : e2 = 0
    · have g : (e2 != 0) = false := by simp [c]
      have d : Hid (∀ j : Nat, j < 1 + 1 → ([e1, e2, e3] : List Int)[j]? = some 0) := fun j u => by
       by_cases h : j < 1
       · exact m.out j h
       · obtain rfl : j = 1 := by omega
         simp [c]
      clear c;go_wp2_with fail
      go_roundw
      case rel => exact ⟨1 + 1, by go_num, by omega, d, hS⟩
      case measure => simp [intOf]
    · have g : (e2 != 0) = true := by simpa using c
      have q : Hid (orL [e1, e2, e3] = e2) := by
       show _ = _;have p := m.out 0 (by omega); simp at p; simp [orL, p, c]
      clear c;go_wp2_with fail
      go_ret
      exact ⟨by rw [q.out]; rfl, l.out _ hS⟩
  · skip;have b := (r.out _ hS).1;have s := b.cellv (i := 2) (v := .func (.func 135) #[] #[.pointer (some ⟨F, 0, none⟩)]) rfl;have n := Lh (H4.out wr ((r.out _ hS).2));clear b;go_wp2_with fail
    refine n.out.mono ?_;rintro e w' ⟨rfl, o⟩;replace hS := stS.go hS o;clear s n o;by_cases c : e3 = 0
    · have g : (e3 != 0) = false := by simp [c]
      have d : Hid (∀ j : Nat, j < 2 + 1 → ([e1, e2, e3] : List Int)[j]? = some 0) := fun j u => by
       by_cases h : j < 2
       · exact m.out j h
       · obtain rfl : j = 2 := by omega
         simp [c]
      clear c;go_wp2_with fail
      go_roundw
      case rel => exact ⟨2 + 1, by go_num, by omega, d, hS⟩
      case measure => simp [intOf]
    · have g : (e3 != 0) = true := by simpa using c
      have q : Hid (orL [e1, e2, e3] = e3) := by
       show _ = _;have p := m.out 0 (by omega); have t := m.out 1 (by omega); simp at p t; simp [orL, p, t, c]
      clear c;go_wp2_with fail
      go_ret
      exact ⟨by rw [q.out]; rfl, l.out _ hS⟩
  · have q : Hid (orL [e1, e2, e3] = 0) := by
     show _ = _;have p := m.out 0 (by omega);have t := m.out 1 (by omega);have h2 := m.out 2 (by omega);simp at p t h2;simp [orL, p, t, h2]
    go_wp2
    go_ret
    exact ⟨by rw [q.out]; rfl, l.out _ hS⟩
theorem Agl (params fuel : Int) (l : List IntsV) : orL [Kc (decide (1 ≤ l.length ∧ l.length ≤ 20)) 18, Kc (!l.any fun x => (x.l.length : Int) != params) 18, Kc (decide (1 ≤ fuel ∧ fuel ≤ 10000)) 19] = Jl params (l.map IntsV.l) fuel := by
 unfold Kc;by_cases d : (l.map IntsV.l).length < 1 ∨ 20 < (l.map IntsV.l).length
 · rw [Aak d];rw [L3] at d;have : ¬ (1 ≤ l.length ∧ l.length ≤ 20) := by omega
   simp [orL, this]
 · by_cases i : ∀ t ∈ l.map IntsV.l, (t.length : Int) = params
   · rw [Adu d i];rw [L3] at d;have g : 1 ≤ l.length ∧ l.length ≤ 20 := by omega
     have h : (l.any fun x => (x.l.length : Int) != params) = false := by
      rw [List.any_eq_false];intro x c;have := i x.l (Nx c);simp [this]
     by_cases k : 1 ≤ fuel ∧ fuel ≤ 10000
     · have e : (if fuel < 1 ∨ 10000 < fuel then (19 : Int) else 0) = 0 := if_neg (by omega);rw [e]; simp [orL, g, h, k]
     · have e : (if fuel < 1 ∨ 10000 < fuel then (19 : Int) else 0) = 19 := if_pos (by omega);rw [e]; simp [orL, g, h, k]
   · have j : ∃ x ∈ l, ¬ (x.l.length : Int) = params := by
      refine Classical.byContradiction fun m => i fun t n => ?_
      obtain ⟨x, c, rfl⟩ := LJ.1 n;exact Classical.byContradiction fun b => m ⟨x, c, b⟩
     obtain ⟨x, c, b⟩ := j;rw [Adt (Nx c) b];rw [L3] at d;have g : 1 ≤ l.length ∧ l.length ≤ 20 := by omega
     have h : (l.any fun x => (x.l.length : Int) != params) = true := by
      rw [List.any_eq_true];exact ⟨x, c, by simpa using b⟩
     simp [orL, g, h]
theorem AhJ (w : World) : (zeroValue 195).run Tryz.prog w = .ok .nilFunc w := by kernel_rfl
theorem Ah6 : (Tryz.prog.info? 164).map (fun i => (i.zero, i.size)) = some (some .nilFunc, 1) := by kernel_rfl
theorem Agm (params fuel : Int) (A : Option Addr) (cap : Nat) (l : List IntsV) (w : World) (hr : Rd w A (Ka l)) (hl : l.length ≤ 1000000) :
 Calls Tryz.prog 68 #[.int .i64 params, .slice A l.length cap, .int .i64 fuel] w fun e w' => e = .returned (.int .i64 (Jl params (l.map IntsV.l) fuel)) ∧ Below w.heap.size w w' := by
 have Hr := Lh hr;have Hl := Lh hl;clear hr hl;go_enter Tryz.func68, Tryz.ntmps68
 go_wp2_with (refine Qn _ _ rfl ?_)
 refine Stop.to ?_;refine Qe rfl 3 _ rfl #[.int .i64 params] rfl ?_;intro P Pw Ph n Pb;go_wp2_with (refine Qn _ _ rfl ?_)
 refine Stop.to ?_;refine Qe rfl 46 _ rfl #[.slice A l.length cap] rfl ?_;intro T Tw t Tr o;go_wp2_with (refine Qn _ _ rfl ?_)
 refine Stop.to ?_;refine Qe rfl 3 _ rfl #[.int .i64 fuel] rfl ?_;intro F Fw q Fr m;have d := (n.below o (Ld n.lt t)).below m (by have := n.lt; have := o.size; omega);have g := Tr.below m (Ld Tr.lt q);have c := Fr;have u := (Below.refl w.heap.size w).trans (Pb.mono Ph);have y := u.trans ((o.mono t).mono u.size);have z := y.trans ((m.mono q).mono y.size);clear n Tr Fr Pb o m Ph t q u y;go_wp2_with (refine QT _ rfl ?_)
 refine Stop.to ?_;refine Qm rfl 195 rfl _ _ (AhJ _) rfl ?_;intro O Ow s Or Ob;go_wp2_with (refine Qv _ _ _ rfl ?_)
 refine Stop.to ?_;refine Qs rfl 195 _ _ rfl O 0 rfl (.func (.func 129) #[] #[.pointer (some ⟨P, 0, none⟩)]) rfl [.func (.func 129) #[] #[.pointer (some ⟨P, 0, none⟩)]] rfl 195 _ #[.func (.func 129) #[] #[.pointer (some ⟨P, 0, none⟩)]] Or (by kernel_rfl) (by show 0 + 1 ≤ 1; omega) (by simp [Value.oneCell']) rfl ?_;intro Ox k Oo;have j := (Ob.mono s).trans (Oo.below s);replace d := d.below j d.lt;replace g := g.below j g.lt;replace c := c.below j c.lt;have b4 := z.trans (j.mono z.size);clear Or Ob s Oo j z;go_wp2_with (refine Zw _ _ _ rfl ?_)
 refine Stop.to ?_;refine Qy rfl 266 3 _ rfl 164 #[.func (.func 131) #[] #[.pointer (some ⟨T, 0, none⟩)], .func (.func 133) #[] #[.pointer (some ⟨T, 0, none⟩), .pointer (some ⟨O, 0, none⟩)], .func (.func 135) #[] #[.pointer (some ⟨F, 0, none⟩)]] (ZT Tryz.underlying266 Ah6 (by decide) (by decide) (by kernel_rfl)) ?_;intro M r Mh Mr Mb;have i := Mb.mono Mh;replace d := d.below i d.lt;replace g := g.below i g.lt;replace c := c.below i c.lt;replace k := k.below i k.lt;have p := b4.trans (i.mono b4.size)
 have b := AfM M T O F (Kc (decide (1 ≤ l.length ∧ l.length ≤ 20)) 18) (Kc (!l.any fun x => (x.l.length : Int) != params) 18) (Kc (decide (1 ≤ fuel ∧ fuel ≤ 10000)) 19) r
  (fun W => (Row W M 164 #[.func (.func 131) #[] #[.pointer (some ⟨T, 0, none⟩)], .func (.func 133) #[] #[.pointer (some ⟨T, 0, none⟩), .pointer (some ⟨O, 0, none⟩)], .func (.func 135) #[] #[.pointer (some ⟨F, 0, none⟩)]] ∧ (Rd W A (Ka l) ∧ Row W T 46 #[.slice A l.length cap] ∧ Row W O 195 #[.func (.func 129) #[] #[.pointer (some ⟨P, 0, none⟩)]] ∧ Row W P 3 #[.int .i64 params] ∧ Row W F 3 #[.int .i64 fuel])) ∧ Below r.heap.size r W)
  (fun W => Rd W A (Ka l) ∧ Row W T 46 #[.slice A l.length cap] ∧ Row W O 195 #[.func (.func 129) #[] #[.pointer (some ⟨P, 0, none⟩)]] ∧ Row W P 3 #[.int .i64 params] ∧ Row W F 3 #[.int .i64 fuel])
  ⟨⟨Mr, Hr.out.go p, g, k, d, c⟩, Below.refl _ _⟩ (fun W h => h.1) (fun W h => h.2)
  (fun W h => Ahs T A l.length cap W h.2.1) (fun W h => Aht T O P A cap l params W h.1 Hl.out h.2.1 h.2.2.1 h.2.2.2.1) (fun W h => Ahu F fuel W h.2.2.2.2)
 rw [Agl] at b;have Hf := Lh b;clear b d g c k Mr Mb i Mh b4;go_wp2_with fail
 refine Hf.out.mono ?_;rintro e w9 ⟨rfl, b9⟩;have v := p.trans (b9.mono p.size);clear Hf b9 p;go_wp2_with fail
 go_ret
 exact ⟨rfl, v⟩
attribute [local go_sem] Oper.semAt_some
theorem MtOk.kx {X : Nat → Prop} {W W' : World} {x : MtV} (h : MtOk W x) (k : KpX X W W') (s : Qi x.m.d.path ≠ [] → ∀ ad, x.A = some ad → ¬ X ad.block) : MtOk W' x := ⟨k.rd h.rd s, h.len, h.nil, h.dig⟩
end Go.Proofs.YtdcmppdhdcjpfaaGreat
namespace Go.Proofs.YtdcmppdhdcjpfaaGreat
open Go.RowKit Go.Deep
def MtT (W : World) (x : MtV) : Prop := MtOk W x ∧ IntB W x.A
theorem MtT.same {A B : World} {x : MtV} (h : MtT A x) (hb : ∀ (a : Addr) (cs : Array Value), x.A = some a → Row A a.block 3 cs → Row B a.block 3 cs) : MtT B x :=
 ⟨⟨fun j u hj => by
  obtain ⟨a, e, hc⟩ := h.1.rd j u hj
  obtain ⟨cs, hr⟩ := h.2 a e
  exact ⟨a, e, (World.cell?_of_block (by rw [JO]; exact (hb a cs e hr).trans (Eq.symm hr))).trans hc⟩, h.1.len, h.1.nil, h.1.dig⟩, fun a e => by
  obtain ⟨cs, hr⟩ := h.2 a e
  exact ⟨cs, hb a cs e hr⟩⟩
theorem MtT.go {A B : World} {x : MtV} (h : MtT A x) (b : Below A.heap.size A B) : MtT B x := h.same fun _ _ _ hr => hr.below b hr.lt
theorem MtT.abide {W W' : World} {x : MtV} {row : Option Nat} {q : Nat → Prop} (h : MtT W x) (hg : W.grownBy W' row) (hr : ∀ r, row = some r → False ∨ (q r ∧ ∃ o : Obj, W.heap[r]? = some o ∧ o.isCells = false)) : MtT W' x := h.same fun _ _ _ k => k.abide hg hr
theorem MtT.own {W W' : World} {x : MtV} {lim n : Nat} {v : Value} {xs : List Value} (h : MtT W x) (hown : W.ownsRow lim 54 8 v n xs) (hg : W.grownBy W' v.ownBlock) : MtT W' x := h.same fun _ _ _ k => k.grown hg (QC hown k (by decide))
theorem MtT.only {W W' : World} {x : MtV} {g : Nat} {t : TypeId} {cs : Array Value} (h : MtT W x) (hr : Row W g t cs) (ht : t ≠ 3) (o : Only g W W') : MtT W' x := h.same fun a cs' _ k => k.only o (fun e => by
 have h1 : W.heap[g]? = some (.cells cs' 3 (0, 0)) := by rw [← e]; exact k
 rw [show W.heap[g]? = some (.cells cs t (0, 0)) from hr] at h1
 injection h1 with h1; injection h1 with _ h1; exact ht h1)
end Go.Proofs.YtdcmppdhdcjpfaaGreat
namespace Go.Proofs.YtdcmppdhdcjpfaaGreat
open Go.ChangeShapes Go.WideShapes Go.RowKit Go.Deep
section
variable {H : Type} {enc : TypeId × Value → H} {w : World} {base : Nat} {spare : Nat → Bool} {held : Bool}
theorem Adh {fuel : Nat} {cs : List Value} {x : DataW H × List MemPlace} (h : DataW.trod enc Tryz.prog w base spare held fuel 46 cs = some x) :
 ∃ (A : Option Addr) (cap : Nat) (l : List IntsV), cs = [.slice A l.length cap] ∧ l.length ≤ cap ∧ cap ≤ maxLen ∧ (A = none → cap = 0) ∧ Rd w A (Ka l) ∧ ∀ e ∈ l, e.ok w := by
 obtain ⟨A, cap, g, rfl, c, i, m, o, j, k⟩ := UT Tryz.underlying46 h;obtain ⟨l, rfl, b⟩ := Ut (fun x : IntsV => [x.val]) (fun x => x.ok w) g (fun s d => by obtain ⟨n, y, q⟩ := k s d; obtain ⟨r, p, e⟩ := EJ q; exact ⟨r, e, p⟩);rw [L3] at c;refine ⟨A, cap, l, by rw [L3], c, i, m, ?_, b⟩
 rw [show Ka l = (l.map fun x : IntsV => [x.val]).flatten from by
  clear c i m o j k b h
  induction l with
  | nil => rfl
  | cons x l ih => simp only [Ka, LF, List.flatten_cons, List.singleton_append] at ih ⊢; rw [← ih]]
 exact j
end
end Go.Proofs.YtdcmppdhdcjpfaaGreat
namespace Go.Proofs.YtdcmppdhdcjpfaaGreat
open Go.RowKit Go.Deep
def bodyE : List Nd := [⟨20, 1⟩, ⟨25, 0⟩, ⟨3, 0⟩]
def treeE : Tr := .node ⟨20, 1⟩ [.node ⟨25, 0⟩ [.node ⟨3, 0⟩ []]]
def pE (g1 g2 : Nat) : PgV := ⟨1, some ⟨g1, 0, none⟩, 1, [0], some ⟨g2, 0, none⟩, 3, bodyE⟩
theorem JY {W : World} {g : Nat} {t : TypeId} {cs : List Value} (h : Row W g t cs.toArray) : Rd W (some ⟨g, 0, none⟩) cs := JZ h
theorem AjM {g1 g2 : Nat} {W : World} (r1 : Row W g1 3 (Qi [0]).toArray) (r2 : Row W g2 85 (bodyE.flatMap Nd.cells).toArray) : (pE g1 g2).ok W :=
 ⟨by unfold InI pE; dsimp only; omega, by simp [pE], by unfold maxLen; simp [pE], fun h => (by cases h), JY r1, by simp [pE, InI], by simp [pE, bodyE], by unfold maxLen; simp [pE], fun h => (by cases h), JY r2, by simp [pE, bodyE, InI]⟩
theorem Aam : treeE.fits := by
 refine .mk _ _ (by rfl) (fun k b => ?_);rw [Lo.1 b];refine .mk _ _ (by rfl) (fun k b => ?_);rw [Lo.1 b];exact .mk _ _ (by rfl) (fun k b => by simp at b)
theorem AjC (g1 g2 : Nat) : Good (pE g1 g2) treeE := ⟨⟨Aam, [], by rfl⟩, by rfl, by show JN 1 [0]; decide, rfl, by show ofT [0] treeE = 2; decide +kernel⟩
theorem Ep (g1 g2 : Nat) : Fine (pE g1 g2) treeE := ⟨AjC g1 g2, by simp [pE, bodyE], by show ∀ x ∈ bodyE, ¬ Qq x < 0; decide, by decide +kernel⟩
theorem XY : (Tryz.prog.info? 3).map (fun i => (i.zero, i.size)) = some (some (.int .i64 0), 1) := by kernel_rfl
theorem Ah7 : (Tryz.prog.info? 85).map (fun i => (i.zero, i.size)) = some (some (.agg #[.int .i64 0, .int .i64 0]), 2) := by kernel_rfl
theorem AhL {w : World} : (zeroValue 25).run Tryz.prog w = .ok (.agg #[.int .i64 0, .slice none 0 0, .slice none 0 0]) w := by kernel_rfl
theorem Af9 (A B : Option Addr) (c d : Nat) (l : List Nd) (π : List Int) (w : World) (hr : Rd w A (l.flatMap Nd.cells)) (hl : l.length ≤ 1000) (hp : Rd w B (Qi π)) (hlp : π.length ≤ 1000000) :
 Calls Tryz.prog 116 #[.slice A l.length c, .slice B π.length d] w fun e w' => e = .returned (.int .i64 (K6 l π)) ∧ Below w.heap.size w w' := by
 obtain ⟨S, m⟩ : ∃ S, S = (fun W => Rd W A (l.flatMap Nd.cells) ∧ Rd W B (Qi π) ∧ Below w.heap.size w W) := ⟨_, rfl⟩;have y : St S := by rw [m]; infer_instance
 have T0 : Hid (∀ W, S W → Rd W A (l.flatMap Nd.cells)) := by show ∀ W, _; rw [m]; exact fun W h => h.1
 have T1 : Hid (∀ W, S W → Rd W B (Qi π)) := by show ∀ W, _; rw [m]; exact fun W h => h.2.1
 have z : Hid (∀ W, S W → Below w.heap.size w W) := by show ∀ W, _; rw [m]; exact fun W h => h.2.2
 have g : S w := by rw [m]; exact ⟨hr, hp, Below.refl _ _⟩
 have He := Lh (JW A c l (0 : Int) w hr hl);have Hl := Lh hl;have ak : (l.length : Int) ≤ 1000 := by omega
 have al : (π.length : Int) ≤ 1000000 := by omega
 clear m hr hp hl hlp;go_enter Tryz.func116, Tryz.ntmps116
 go_wp2_with fail
 go_step3
 go_wp2_with fail
 refine He.out.mono ?_;rintro e w1 ⟨rfl, b1⟩;replace g := y.go g b1;clear He b1;by_cases o : endZ l 0 = (l.length : Int);rotate_left
 · have af : (endZ l 0 != (l.length : Int)) = true := by simpa using o
   have t : K6 l π = -1 := if_neg o;have q := Lh t.symm;clear o t;go_wp2_with fail
   try rw [Exit.noGoto_ret]
   go_ret
   exact ⟨Ze q.out, z.out _ g⟩
 have af : (endZ l 0 != (l.length : Int)) = false := by simpa using o
 have t : K6 l π = XS l 0 π := if_pos o;have q := Lh t;clear o t;go_wp2_with fail
 go_step3
 go_wp2_with fail
 go_loopw [5, 16] (fun ac i wr => ∃ (a : Int) (k : Nat), ac = .int .i64 a ∧ i = .int .i64 (k : Int) ∧ k ≤ π.length ∧ Hid (K6 l π = XS l a (π.drop k)) ∧ S wr) (fun _ i _ => π.length - (intOf i).toNat)
 case atStart => exact ⟨0, 0, rfl, by simp, Nat.zero_le _, q.out, g⟩
 case round =>
  clear g q;obtain ⟨a, k, rfl, rfl, ai, r, g⟩ := hrel;by_cases u : k < π.length;rotate_left
  · have ag : ¬ ((k : Int) < (π.length : Int)) := by omega
    obtain rfl : k = π.length := by omega
    have q : Hid (K6 l π = a) := by have := r.out; rw [List.drop_length] at this; exact this
    clear u r;go_wp2_with fail
    try rw [Exit.noGoto_ret]
    go_ret
    exact ⟨Ze q.out.symm, z.out _ g⟩
  obtain ⟨i, hi⟩ : ∃ i, π[k]? = some i := ⟨_, La (by omega)⟩;obtain ⟨bd, ad, c0⟩ := QR (T1.out _ g) hi;subst ad;have aj : (k : Int) < (π.length : Int) := by omega
  have Hi := Lh hi;have p := Lh (Yh A c l a wr (T0.out _ g) Hl.out);clear hi u;go_wp2_with fail
  refine p.out.mono ?_;rintro e w2 ⟨v, rfl, s, b2⟩;obtain ⟨C, cc, rfl, x, -, -, -⟩ := Xp s;replace g := y.go g b2;have aa := Lh x;clear p b2 s x c0;obtain ⟨n, hn⟩ : ∃ n, n = (kidsZ l a).length := ⟨_, rfl⟩;have Hn := Lh hn;rw [← hn];clear hn;by_cases h0 : i < 0
  · have q : Hid (K6 l π = -1) := by rw [Hid, r.out]; exact Abk Hi.out (Or.inl h0)
    clear r;go_wp2_with fail
    try rw [Exit.noGoto_ret]
    go_ret
    exact ⟨Ze q.out.symm, z.out _ g⟩
  by_cases h1 : (n : Int) ≤ i
  · have q : Hid (K6 l π = -1) := by rw [Hid, r.out]; exact Abk Hi.out (Or.inr (by rw [← Hn.out]; exact h1))
    clear r;go_wp2_with fail
    try rw [Exit.noGoto_ret]
    go_ret
    exact ⟨Ze q.out.symm, z.out _ g⟩
  obtain ⟨j, rfl⟩ : ∃ j : Nat, i = (j : Int) := ⟨i.toNat, by omega⟩;obtain ⟨b, hb⟩ : ∃ b, (kidsZ l a)[j]? = some b := ⟨_, La (by have := Hn.out; omega)⟩;obtain ⟨cd, ae, c2⟩ := QR aa.out hb;subst ae;have ab : Hid (K6 l π = XS l b (π.drop (k + 1))) := by rw [Hid, r.out]; exact AhD Hi.out hb
  have ah : (j : Int) < (n : Int) := by omega
  clear r hb;go_wp2_with fail
  refine ⟨⟨b, k + 1, rfl, by simp, by omega, ab, g⟩, ?_⟩;simp only [intOf]; omega
end Go.Proofs.YtdcmppdhdcjpfaaGreat
