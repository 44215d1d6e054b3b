/- Lemmas for RunnerJustP. -/
import Derived.Test.YtkoikjnlpifbjaaGreatZb1
import Derived.Test.YtkoikjnlpifbjaaGreatZb19
import Derived.Test.YtkoikjnlpifbjaaGreatZb13
set_option linter.unusedVariables false
set_option linter.unusedSimpArgs false
set_option maxRecDepth 100000
set_option maxHeartbeats 16000000
namespace Go.Proofs.YtkoikjnlpifbjaaGreat
open Go.RowKit Go.Deep
def VE (l : List Dl) (d : Dl) : Bool := l.any fun e => decide (Z8 e d = 0)
theorem Ac1 {l : List Dl} {d : Dl} : VE l d = true ↔ d ∈ l := by
 unfold VE;rw [List.any_eq_true];constructor
 · rintro ⟨e, b, h⟩;rw [decide_eq_true_eq, cmpD_eq] at h;exact h ▸ b
 · exact fun h => ⟨d, h, by rw [decide_eq_true_eq]; exact YL d⟩
instance St.dlt_all {l : List DlV} : St (fun W => ∀ x ∈ l, DlT W x) := ⟨fun h b x hx => (h x hx).go b⟩
theorem AdW (L : Nat) (A : Option Addr) (cap : Nat) (xs : List DlV) (x : MtV) (w : World) (hr : Row w L 44 #[.slice A xs.length cap]) (hrd : Rd w A (KF xs)) (hl : xs.length ≤ 1000000) (hok : ∀ y ∈ xs, DlT w y) (hrise : KJ (xs.map DlV.d)) (hx : MtOk w x) :
 Calls Tryz.prog 35 #[.agg x.cells.toArray, .pointer (some ⟨L, 0, none⟩)] w fun e w' => e = .returned (.bool (!VE (xs.map DlV.d) x.m.d)) ∧ Below w.heap.size w w' := by
 have k := Lv hrd;have j := Lv hok;have u := Lv hx;have s := Lv hl;have b := Lv hrise;clear hrd hok hx hl hrise;go_enter Tryz.func35, Tryz.ntmps35
 go_wp2_with (refine Qm _ _ rfl ?_)
 refine Stop.to ?_;refine Qe rfl 54 _ rfl x.cells.toArray rfl ?_;intro G Gw p q o;have g := (Below.refl w.heap.size w).trans (o.mono p);have rL := hr.below g hr.lt;have c0 := rL.cellv (i := 0) (v := .slice A xs.length cap) rfl;have t := Lv (Ez A cap xs x.dl Gw (k.out.go g) s.out (fun y hy => ((j.out y hy).go g).ok) (u.out.go g).dl b.out);clear hr rL o p k j u s b;go_wp2_with (refine QF rfl 50 _ rfl ⟨G, 0, none⟩ rfl x.dl.cells.toList _ (AhQ q) Tryz.underlying50 rfl (by kernel_rfl) ?_)
 refine t.out.mono ?_;rintro e w1 ⟨⟨r, rfl, hd⟩, z⟩;have b3 := g.trans (z.mono g.size);have c : 0 ≤ r ↔ VE (xs.map DlV.d) x.m.d = true := by rw [hd, Ac1]; exact Iff.rfl
 clear t q g z c0 hd;by_cases h0 : r < 0
 · have l : Hid ((!VE (xs.map DlV.d) x.m.d) = true) := by
    show _ = _;have n : ¬ VE (xs.map DlV.d) x.m.d = true := fun h => by have := c.2 h; omega
    simpa using n
   clear c;go_wp2_with fail
   go_ret
   exact ⟨ZU l.out, b3⟩
 · have l : Hid ((!VE (xs.map DlV.d) x.m.d) = false) := by
    show _ = _;have n := c.1 (by omega);simp only [n, Bool.not_true]
   clear c;go_wp2_with fail
   go_ret
   exact ⟨ZU (l.out.trans (decide_eq_false (by omega)).symm), b3⟩
theorem AhD (P : Nat) (A : Option Addr) (cap : Nat) (l : List MtV) (p : MtV → Bool) (w : World) (S : World → Prop) [stS : St S] (hS : S w) (hrd : ∀ W, S W → Rd W A (J9 l)) (hlo : ∀ W, S W → Below w.heap.size w W)
 (hp : ∀ x ∈ l, ∀ W, S W → Calls Tryz.prog 35 #[.agg x.cells.toArray, .pointer (some ⟨P, 0, none⟩)] W fun e W' => e = .returned (.bool (p x)) ∧ Below W.heap.size W W') (hl : l.length ≤ 1000000) :
 Calls Tryz.prog 80 #[.slice A l.length cap, .func (.func 35) #[] #[.pointer (some ⟨P, 0, none⟩)]] w fun e w' => e = .returned (.int .i64 (Aax p l)) ∧ Below w.heap.size w w' := by
 have Hp := Lv hp;have s := Lv hrd;have m := Lv hlo;have ab : (l.length : Int) ≤ 1000000 := by omega
 clear hp hrd hlo hl;go_enter Tryz.func80, Tryz.ntmps80
 go_wp2
 go_loopw [8] (fun i wr => ∃ k : Nat, i = .int .i64 (k : Int) ∧ k ≤ l.length ∧ Hid (∀ y ∈ l.take k, p y = false) ∧ S wr) (fun i _ => l.length - (intOf i).toNat)
 case atStart => exact ⟨0, rfl, Nat.zero_le _, Lv (fun x g => by simp at g), hS⟩
 case round =>
  clear hS;obtain ⟨k, rfl, hk, b, hS⟩ := hrel;by_cases d : k < l.length
  · obtain ⟨x, g⟩ : ∃ x, l[k]? = some x := ⟨_, La d⟩;obtain ⟨v, t, o⟩ := Abg (s.out _ hS) g;have h : Hid (∀ j u, x.cells[j]? = some u → wr.cell? ((v.add (k * 8)).add j) = some u) := o;have q := Lv g;have c := Lv (Hp.out x (Lj g) wr hS);have aa : (k : Int) < (l.length : Int) := by omega
    clear g d o;subst t;go_wp2_with (refine QF rfl 54 _ rfl (v.add (k * 8)) rfl x.cells _ h.out Tryz.underlying54 rfl (by kernel_rfl) ?_)
    refine c.out.mono ?_;rintro e w' ⟨rfl, z⟩;replace hS := stS.go hS z;clear z c h;cases hs : p x
    · have n := Lv (J8 b.out q.out hs);clear hs q;go_wp2_with fail
      go_roundw
      case rel => exact ⟨k + 1, by go_num, by omega, n, hS⟩
      case measure => simp [intOf]; omega
    · have n := Lv (Ur b.out q.out hs);clear hs q;go_wp2_with fail
      go_ret
      exact ⟨by rw [n.out]; rfl, m.out _ hS⟩
  · obtain rfl : k = l.length := by omega
    have n := Lv (VK (p := p) (l := l) (by have := b.out; rwa [LW] at this));clear d hk;go_wp2
    go_ret
    exact ⟨by rw [n.out]; rfl, m.out _ hS⟩
theorem Af8 (P : Nat) (A : Option Addr) (cap : Nat) (l : List MtV) (p : MtV → Bool) (w : World) (S : World → Prop) [stS : St S] (hS : S w) (hrd : ∀ W, S W → Rd W A (J9 l)) (hlo : ∀ W, S W → Below w.heap.size w W)
 (hp : ∀ x ∈ l, ∀ W, S W → Calls Tryz.prog 35 #[.agg x.cells.toArray, .pointer (some ⟨P, 0, none⟩)] W fun e W' => e = .returned (.bool (p x)) ∧ Below W.heap.size W W') (hl : l.length ≤ 1000000) :
 Calls Tryz.prog 46 #[.slice A l.length cap, .func (.func 35) #[] #[.pointer (some ⟨P, 0, none⟩)]] w fun e w' => e = .returned (.bool (l.any p)) ∧ Below w.heap.size w w' := by
 have b := Lv (AhD P A cap l p w S hS hrd hlo hp hl);clear hp hrd hlo hl hS;go_enter Tryz.func46, Tryz.ntmps46
 go_wp2_with fail
 refine b.out.mono ?_;rintro e w' ⟨rfl, d⟩;have c := Lv (Uq p l);clear b;go_wp2_with fail
 go_ret
 exact ⟨ZU c.out.symm, d⟩
theorem Afu {W : World} {G : Nat} {t : TypeId} {c : CpV} (h : Row W G t c.cells) : W.cell? ⟨G, 3, none⟩ = some (.slice c.tA c.tests.length c.tcap) := h.cellv (i := 3) rfl
theorem El {W : World} {G : Nat} {t : TypeId} {c : CpV} (h : Row W G t c.cells) : W.cell? ⟨G, 5, none⟩ = some (.slice c.mA c.mts.length c.mcap) := h.cellv (i := 5) rfl
def AaC (n : Nat) (x : Mt) : Bool := !JY x || decide ((n : Int) ≤ x.test)
theorem AhV (C : Nat) (c : CpV) (x : MtV) (w : World) (hr : Row w C 38 c.cells) (hx : MtOk w x) :
 Calls Tryz.prog 37 #[.agg x.cells.toArray, .pointer (some ⟨C, 0, none⟩)] w fun e w' => e = .returned (.bool (AaC c.tests.length x.m)) ∧ Below w.heap.size w w' := by
 have p := Lv hx;clear hx;go_enter Tryz.func37, Tryz.ntmps37
 go_wp2_with (refine Qm _ _ rfl ?_)
 refine Stop.to ?_;refine Qe rfl 54 _ rfl x.cells.toArray rfl ?_;intro G t n g l;have d := (Below.refl w.heap.size w).trans (l.mono n);have k := hr.below d hr.lt;have o := Lv (AgI x t (p.out.go d));clear hr l n p;go_wp2_with (refine wpList_load_row rfl 54 _ rfl G rfl 54 x.cells.toArray (0, 0) _ g Tryz.underlying54 rfl (by kernel_rfl) ?_)
 refine o.out.mono ?_;rintro e u ⟨rfl, h⟩;have s := d.trans (h.mono d.size);have v := Afu (k.below h k.lt);have y : u.cell? ⟨G, 4, none⟩ = some (.int .i64 x.m.test) := (g.below h g.lt).cellv (i := 4) rfl;clear o g k d h;obtain ⟨b, j⟩ : ∃ b, b = JY x.m := ⟨_, rfl⟩;have q : Hid (AaC c.tests.length x.m = (!b || decide ((c.tests.length : Int) ≤ x.m.test))) := by show _ = _; rw [j]; rfl
 rw [← j];clear j;cases b
 · go_wp2_with fail
   go_ret
   exact ⟨ZU (q.out.trans rfl), s⟩
 · go_wp2_with fail
   go_ret
   exact ⟨ZU (q.out.trans (by simp)), s⟩
theorem AhC (P : Nat) (A : Option Addr) (cap : Nat) (l : List MtV) (p : MtV → Bool) (w : World) (S : World → Prop) [stS : St S] (hS : S w) (hrd : ∀ W, S W → Rd W A (J9 l)) (hlo : ∀ W, S W → Below w.heap.size w W)
 (hp : ∀ x ∈ l, ∀ W, S W → Calls Tryz.prog 37 #[.agg x.cells.toArray, .pointer (some ⟨P, 0, none⟩)] W fun e W' => e = .returned (.bool (p x)) ∧ Below W.heap.size W W') (hl : l.length ≤ 1000000) :
 Calls Tryz.prog 80 #[.slice A l.length cap, .func (.func 37) #[] #[.pointer (some ⟨P, 0, none⟩)]] w fun e w' => e = .returned (.int .i64 (Aax p l)) ∧ Below w.heap.size w w' := by
 have Hp := Lv hp;have s := Lv hrd;have m := Lv hlo;have ab : (l.length : Int) ≤ 1000000 := by omega
 clear hp hrd hlo hl;go_enter Tryz.func80, Tryz.ntmps80
 go_wp2
 go_loopw [8] (fun i wr => ∃ k : Nat, i = .int .i64 (k : Int) ∧ k ≤ l.length ∧ Hid (∀ y ∈ l.take k, p y = false) ∧ S wr) (fun i _ => l.length - (intOf i).toNat)
 case atStart => exact ⟨0, rfl, Nat.zero_le _, Lv (fun x g => by simp at g), hS⟩
 case round =>
  clear hS;obtain ⟨k, rfl, hk, b, hS⟩ := hrel;by_cases d : k < l.length
  · obtain ⟨x, g⟩ : ∃ x, l[k]? = some x := ⟨_, La d⟩;obtain ⟨v, t, o⟩ := Abg (s.out _ hS) g;have h : Hid (∀ j u, x.cells[j]? = some u → wr.cell? ((v.add (k * 8)).add j) = some u) := o;have q := Lv g;have c := Lv (Hp.out x (Lj g) wr hS);have aa : (k : Int) < (l.length : Int) := by omega
    clear g d o;subst t;go_wp2_with (refine QF rfl 54 _ rfl (v.add (k * 8)) rfl x.cells _ h.out Tryz.underlying54 rfl (by kernel_rfl) ?_)
    refine c.out.mono ?_;rintro e w' ⟨rfl, z⟩;replace hS := stS.go hS z;clear z c h;cases hs : p x
    · have n := Lv (J8 b.out q.out hs);clear hs q;go_wp2_with fail
      go_roundw
      case rel => exact ⟨k + 1, by go_num, by omega, n, hS⟩
      case measure => simp [intOf]; omega
    · have n := Lv (Ur b.out q.out hs);clear hs q;go_wp2_with fail
      go_ret
      exact ⟨by rw [n.out]; rfl, m.out _ hS⟩
  · obtain rfl : k = l.length := by omega
    have n := Lv (VK (p := p) (l := l) (by have := b.out; rwa [LW] at this));clear d hk;go_wp2
    go_ret
    exact ⟨by rw [n.out]; rfl, m.out _ hS⟩
theorem Af7 (P : Nat) (A : Option Addr) (cap : Nat) (l : List MtV) (p : MtV → Bool) (w : World) (S : World → Prop) [stS : St S] (hS : S w) (hrd : ∀ W, S W → Rd W A (J9 l)) (hlo : ∀ W, S W → Below w.heap.size w W)
 (hp : ∀ x ∈ l, ∀ W, S W → Calls Tryz.prog 37 #[.agg x.cells.toArray, .pointer (some ⟨P, 0, none⟩)] W fun e W' => e = .returned (.bool (p x)) ∧ Below W.heap.size W W') (hl : l.length ≤ 1000000) :
 Calls Tryz.prog 46 #[.slice A l.length cap, .func (.func 37) #[] #[.pointer (some ⟨P, 0, none⟩)]] w fun e w' => e = .returned (.bool (l.any p)) ∧ Below w.heap.size w w' := by
 have b := Lv (AhC P A cap l p w S hS hrd hlo hp hl);clear hp hrd hlo hl hS;go_enter Tryz.func46, Tryz.ntmps46
 go_wp2_with fail
 refine b.out.mono ?_;rintro e w' ⟨rfl, d⟩;have c := Lv (Uq p l);clear b;go_wp2_with fail
 go_ret
 exact ⟨ZU c.out.symm, d⟩
theorem Ahd (C : Nat) (c : CpV) (w : World) (hr : Row w C 38 c.cells) (hc : CpOk w c) :
 Calls Tryz.prog 39 #[.pointer (some ⟨C, 0, none⟩)] w fun e w' => e = .returned (.int .i64 (QP (QI c.p == 0) 23)) ∧ Below w.heap.size w w' := by
 have b := Lv (X6 c.p hc.bl w hc.pok);clear hc;go_enter Tryz.func39, Tryz.ntmps39
 go_wp2_with (refine QF rfl 25 _ rfl ⟨C, 0, none⟩ rfl c.p.cells.toList _ (Aft hr) Tryz.underlying25 rfl (by kernel_rfl) ?_)
 refine b.out.mono ?_;rintro e g ⟨rfl, d⟩;clear b hr;go_wp2_with fail
 refine (JS _ 23 g).mono ?_;rintro e h ⟨rfl, rfl⟩;go_wp2_with fail
 go_ret
 exact ⟨rfl, d⟩
theorem Ahe (C : Nat) (c : CpV) (w : World) (hr : Row w C 38 c.cells) (hc : CpOk w c) :
 Calls Tryz.prog 41 #[.pointer (some ⟨C, 0, none⟩)] w fun e w' => e = .returned (.int .i64 (ZR c.p.params c.testsL c.fuel)) ∧ Below w.heap.size w w' := by
 have b := Lv (Vg c.p.params c.fuel c.tA c.tcap c.tests w hc.trd (by have := hc.tlen; omega));have g := hr.cellv (i := 0) (v := .int .i64 c.p.params) rfl;have h := Afu hr;have j := hr.cellv (i := 4) (v := .int .i64 c.fuel) rfl;clear hr hc;go_enter Tryz.func41, Tryz.ntmps41
 go_wp2_with fail
 refine b.out.mono ?_;rintro e k ⟨rfl, d⟩;clear b g h j;go_wp2_with fail
 go_ret
 exact ⟨rfl, d⟩
theorem Ahf (C : Nat) (c : CpV) (w : World) (hr : Row w C 38 c.cells) :
 Calls Tryz.prog 42 #[.pointer (some ⟨C, 0, none⟩)] w fun e w' => e = .returned (.int .i64 (QP (decide ((c.mts.length : Int) ≤ 2000)) 24)) ∧ Below w.heap.size w w' := by
 have b := El hr;clear hr;go_enter Tryz.func42, Tryz.ntmps42
 go_wp2_with fail
 refine (JS _ 24 w).mono ?_;rintro e d ⟨rfl, rfl⟩;clear b;go_wp2_with fail
 go_ret
 exact ⟨rfl, Below.refl _ _⟩
theorem Ahg (C : Nat) (c : CpV) (w : World) (hr : Row w C 38 c.cells) (hc : CpOk w c) :
 Calls Tryz.prog 43 #[.pointer (some ⟨C, 0, none⟩)] w fun e w' => e = .returned (.int .i64 (QP (YX c.muts) 20)) ∧ Below w.heap.size w w' := by
 have b := Lv (AgL c.mA c.mcap _ c.mts w rfl hc.mrd (by have := hc.mlen; omega) hc.mok);have g := El hr;clear hr hc;go_enter Tryz.func43, Tryz.ntmps43
 go_wp2_with fail
 refine b.out.mono ?_;rintro e h ⟨rfl, d⟩;clear b g;go_wp2_with fail
 refine (JS _ 20 h).mono ?_;rintro e i ⟨rfl, rfl⟩;go_wp2_with fail
 go_ret
 exact ⟨rfl, d⟩
theorem Ahh (C F L : Nat) (c : CpV) (A : Option Addr) (cap : Nat) (xs : List DlV) (w : World) (hr : Row w C 38 c.cells) (hc : CpOk w c) (hf : Row w F 101 #[.func (.func 35) #[] #[.pointer (some ⟨L, 0, none⟩)]])
 (hL : Row w L 44 #[.slice A xs.length cap]) (hrd : Rd w A (KF xs)) (hl : xs.length ≤ 1000000) (hok : ∀ y ∈ xs, DlT w y) (hrise : KJ (xs.map DlV.d)) :
 Calls Tryz.prog 45 #[.pointer (some ⟨C, 0, none⟩), .pointer (some ⟨F, 0, none⟩)] w fun e w' => e = .returned (.int .i64 (QP (!c.mts.any fun x => !VE (xs.map DlV.d) x.m.d) 17)) ∧ Below w.heap.size w w' := by
 have b := Lv (Af8 L c.mA c.mcap c.mts (fun x => !VE (xs.map DlV.d) x.m.d) w (fun W => (Row W L 44 #[.slice A xs.length cap] ∧ Rd W A (KF xs) ∧ ∀ y ∈ xs, DlT W y) ∧ CpOk W c ∧ Below w.heap.size w W) ⟨⟨hL, hrd, hok⟩, hc, Below.refl _ _⟩ (fun W h => h.2.1.mrd) (fun W h => h.2.2) (fun x l W h => AdW L A cap xs x W h.1.1 h.1.2.1 hl h.1.2.2 hrise (h.2.1.mok x l)) (by have := hc.mlen; omega));have j := El hr;have k := hf.cellv (i := 0) (v := .func (.func 35) #[] #[.pointer (some ⟨L, 0, none⟩)]) rfl;clear hr hc hf hL hrd hl hok hrise;go_enter Tryz.func45, Tryz.ntmps45
 go_wp2_with fail
 refine b.out.mono ?_;rintro e n ⟨rfl, g⟩;clear b j k;go_wp2_with fail
 refine (JS _ 17 n).mono ?_;rintro e o ⟨rfl, rfl⟩;go_wp2_with fail
 go_ret
 exact ⟨rfl, g⟩
theorem Ahi (C F : Nat) (c : CpV) (w : World) (hr : Row w C 38 c.cells) (hc : CpOk w c) (hf : Row w F 101 #[.func (.func 37) #[] #[.pointer (some ⟨C, 0, none⟩)]]) :
 Calls Tryz.prog 47 #[.pointer (some ⟨C, 0, none⟩), .pointer (some ⟨F, 0, none⟩)] w fun e w' => e = .returned (.int .i64 (QP (!c.mts.any fun x => AaC c.tests.length x.m) 21)) ∧ Below w.heap.size w w' := by
 have b := Lv (Af7 C c.mA c.mcap c.mts (fun x => AaC c.tests.length x.m) w (fun W => Row W C 38 c.cells ∧ CpOk W c ∧ Below w.heap.size w W) ⟨hr, hc, Below.refl _ _⟩ (fun W h => h.2.1.mrd) (fun W h => h.2.2) (fun x k W h => AhV C c x W h.1 (h.2.1.mok x k)) (by have := hc.mlen; omega));have g := El hr;have j := hf.cellv (i := 0) (v := .func (.func 37) #[] #[.pointer (some ⟨C, 0, none⟩)]) rfl;clear hr hc hf;go_enter Tryz.func47, Tryz.ntmps47
 go_wp2_with fail
 refine b.out.mono ?_;rintro e l ⟨rfl, d⟩;clear b g j;go_wp2_with fail
 refine (JS _ 21 l).mono ?_;rintro e n ⟨rfl, rfl⟩;go_wp2_with fail
 go_ret
 exact ⟨rfl, d⟩
theorem Ahn {W : World} {G : Nat} {t : TypeId} {c : CpV} (h : Row W G t c.cells) : ∀ j v, c.sc.cells.toList[j]? = some v → W.cell? ((⟨G, 6, none⟩ : Addr).add j) = some v :=
 Row.from_ (cur := c.cells) h 6 (fun j v hj => by
  match j, hj with
  | 0, hj | 1, hj | 2, hj => exact hj
  | j + 3, hj => simp [Sc.cells] at hj)
def scB (a b : Sc) : Bool := a.alive == b.alive && (a.killed == b.killed && a.timeout == b.timeout)
theorem Ahj (C : Nat) (c : CpV) (w : World) (hr : Row w C 38 c.cells) (hc : CpOk w c) :
 Calls Tryz.prog 48 #[.pointer (some ⟨C, 0, none⟩)] w fun e w' => e = .returned (.int .i64 (QP (scB c.sc (Qx c.muts)) 22)) ∧ Below w.heap.size w w' := by
 obtain ⟨S, b⟩ : ∃ S, S = (fun W => Row W C 38 c.cells ∧ CpOk W c ∧ Below w.heap.size w W) := ⟨_, rfl⟩;have l : St S := by rw [b]; infer_instance
 have i : Hid (∀ W, S W → Row W C 38 c.cells) := by show ∀ W, _; rw [b]; exact fun W h => h.1
 have j : Hid (∀ W, S W → CpOk W c) := by show ∀ W, _; rw [b]; exact fun W h => h.2.1
 have k : Hid (∀ W, S W → Below w.heap.size w W) := by show ∀ W, _; rw [b]; exact fun W h => h.2.2
 have g : S w := by rw [b]; exact ⟨hr, hc, Below.refl _ _⟩
 clear b hr hc;go_enter Tryz.func48, Tryz.ntmps48
 go_wp2_with fail
 refine ZJ S (by kernel_rfl) (by kernel_rfl) (St.drew g) ?_;clear g;(refine Qg rfl ?_ (fun W d => ?_) ?_; rotate_left; (focus (go_simp; exact rfl)); simp only [Act.put, Qa, Qb, Qc]);(refine Zl rfl 36 _ rfl (_) rfl [.int .i64 c.sc.alive, .int .i64 c.sc.killed, .int .i64 c.sc.timeout] _ (fun W d => Ahn (i.out W d)) Tryz.underlying36 rfl (by kernel_rfl) ?_; simp only [Act.put, Qa, Qb, Qc]);(refine Qg rfl ?_ (fun W d => ?_) ?_; rotate_left; (focus (go_simp; exact rfl)); simp only [Act.put, Qa, Qb, Qc]);(refine Qg rfl ?_ (fun W d => ?_) ?_; rotate_left; (focus (have m := El (i.out W d); go_simp; exact rfl)); simp only [Act.put, Qa, Qb, Qc]);(refine QG rfl 32 _ (fun W => by (go_simp; try rfl)) (.agg #[.int .i64 (Qx c.muts).alive, .int .i64 (Qx c.muts).killed, .int .i64 (Qx c.muts).timeout]) (fun W d => Abq c.mA c.mcap c.mts W (j.out W d).mrd (by have := (j.out W d).mlen; omega)) ?_; simp only [Act.put, Qa, Qb, Qc])
 (refine Qg rfl (.bool (scB c.sc (Qx c.muts))) (fun W d => (by unfold scB; go_simp; repeat (first | rfl | split); all_goals simp [*])) ?_; simp only [Act.put, Qa, Qb, Qc])
 (refine QG rfl 40 _ (fun W => by (go_simp; try rfl)) (.int .i64 (QP (scB c.sc (Qx c.muts)) 22)) (fun W d => ((JS (scB c.sc (Qx c.muts)) 22 W).mono fun _ _ ⟨h1, h2⟩ => ⟨h1, h2 ▸ Below.refl _ _⟩)) ?_; simp only [Act.put, Qa, Qb, Qc])
 (refine Qg rfl ?_ (fun W d => ?_) ?_; rotate_left; (focus (go_simp; exact rfl)); simp only [Act.put, Qa, Qb, Qc]);refine QS fun W g => ?_
 go_wp2_with fail
 go_ret
 exact ⟨rfl, k.out _ g⟩
noncomputable def K6 (c : CpV) : Int := orL [QP (QI c.p == 0) 23, ZR c.p.params c.testsL c.fuel, QP (decide ((c.mts.length : Int) ≤ 2000)) 24, QP (YX c.muts) 20, QP (!c.mts.any fun x => !inP c.p x.m.d) 17, QP (!c.mts.any fun x => AaC c.tests.length x.m) 21, QP (scB c.sc (Qx c.muts)) 22]
theorem Ah2 {l : List Int} (h : ∀ (j : Nat) (x : Int), l[j]? = some x → x = 0) : orL l = 0 := by
 induction l with
 | nil => rfl
 | cons a l ih =>
  have b : a = 0 := h 0 a rfl;rw [orL, if_pos b];exact ih fun j x c => h (j + 1) x (by simpa using c)
theorem Jn : ∀ {l : List Int} {k : Nat} {e : Int}, (∀ j, j < k → l[j]? = some 0) → l[k]? = some e → e ≠ 0 → orL l = e
 | [], _, _, _, h, _ => by simp at h
 | a :: l, 0, e, _, h, hne => by
  simp at h
  rw [orL, h, if_neg hne]
 | a :: l, k + 1, e, hz, h, hne => by
  have h0 : a = 0 := by have := hz 0 (by omega); simpa using this
  rw [orL, if_pos h0]
  exact Jn (k := k) (fun j hj => by have := hz (j + 1) (by omega); simpa using this) (by simpa using h) hne
theorem AfX (w : World) : (zeroValue 101).run Tryz.prog w = .ok .nilFunc w := by kernel_rfl
theorem Aj1 (w : World) : (zeroValue 44).run Tryz.prog w = .ok (.slice none 0 0) w := by kernel_rfl
theorem Aj0 (w : World) : (zeroValue 106).run Tryz.prog w = .ok (.agg #[.nilFunc, .nilFunc, .nilFunc, .nilFunc, .nilFunc, .nilFunc, .nilFunc]) w := by kernel_rfl
theorem AcR (c : CpV) (w : World) (hc : CpOk w c) :
 Calls Tryz.prog 16 #[.agg c.cells] w fun e w' => e = .returned (.int .i64 (K6 c)) ∧ Below w.heap.size w w' := by
 have Hc := Lv hc;obtain ⟨z, hz⟩ : ∃ z, z = K6 c := ⟨_, rfl⟩;rw [← hz];have ad := Lv hz;clear hc hz;go_enter Tryz.func16, Tryz.ntmps16
 go_wp2_with (refine Qm _ _ rfl ?_)
 refine Stop.to ?_;refine Qe rfl 38 _ rfl c.cells rfl ?_;intro C Cw Ch Cr Cb;have n := (Below.refl w.heap.size w).trans (Cb.mono Ch);have q := Lv (Hc.out.go n);have Hs := Lv (KQ c.p q.out.bl Cw q.out.pok);clear Cb Ch Hc;go_wp2_with fail
 go_step3
 go_wp2_with (refine QF rfl 25 _ rfl ⟨C, 0, none⟩ rfl c.p.cells.toList _ (Aft Cr) Tryz.underlying25 rfl (by kernel_rfl) ?_)
 refine Hs.out.mono ?_;rintro e w1 ⟨A, ai, xs, rfl, aw, ap, ar, av, ag, au, ax, b2⟩;replace Cr := Cr.below b2 Cr.lt;replace n := n.trans (b2.mono n.size);replace q := Lv (q.out.go b2)
 have al : KJ (xs.map DlV.d) := by
  by_cases h : QI c.p = 0
  · obtain ⟨t, ht⟩ := checkP_ok.1 h;rw [ag t ht]; exact YJ _ _
  · rw [au h]; trivial
 have aq : QI c.p = 0 → ∀ d, VE (xs.map DlV.d) d = inP c.p d := fun h d => by
  obtain ⟨t, ht⟩ := checkP_ok.1 h;rw [Nz, Ac1, Ac2 ht, ag t ht]
 obtain ⟨es, am⟩ : ∃ es, es = [QP (QI c.p == 0) 23, ZR c.p.params c.testsL c.fuel, QP (decide ((c.mts.length : Int) ≤ 2000)) 24, QP (YX c.muts) 20, QP (!c.mts.any fun x => !VE (xs.map DlV.d) x.m.d) 17, QP (!c.mts.any fun x => AaC c.tests.length x.m) 21, QP (scB c.sc (Qx c.muts)) 22] := ⟨_, rfl⟩
 have an : K6 c = orL es := by
  by_cases h : QI c.p = 0
  · rw [am]; unfold K6;simp only [aq h]
  · rw [am]; unfold K6;have hu : QP (QI c.p == 0) 23 = 23 := by unfold QP; rw [if_neg (by simpa using h)]
    rw [Jn (k := 0) (e := 23) (fun j hj => by omega) (by rw [hu]; rfl) (by omega), Jn (k := 0) (e := 23) (fun j hj => by omega) (by rw [hu]; rfl) (by omega)]
 replace ad := Lv (ad.out.trans an);have ae := Lv am;have ac := Lv aw;have ab := Lv av;have ay := Lv ax;have ao := Lv al;clear b2 Hs aw ap ar av ag au ax al aq am an;go_wp2_with (refine QE _ rfl ?_)
 refine Stop.to ?_;refine Qi rfl 44 rfl _ _ (Aj1 _) rfl ?_;intro L Lw Lh Lr Lb;go_wp2_with (refine Qp _ _ _ rfl ?_)
 refine Stop.to ?_;refine Qq rfl 44 _ _ rfl L 0 rfl (.slice A xs.length ai) rfl [.slice A xs.length ai] rfl 44 _ #[.slice A xs.length ai] Lr (by kernel_rfl) (by show 0 + 1 ≤ 1; omega) (by simp [Value.oneCell']) rfl ?_;intro Lx Ls Lo;have Lc := (Lb.mono Lh).trans (Lo.below Lh);clear Lb Lr Lo;replace Cr := Cr.below Lc Cr.lt;replace ac := Lv (ac.out.go Lc);replace ab := Lv (fun y hy => (ab.out y hy).go Lc);replace q := Lv (q.out.go Lc);replace n := n.trans (Lc.mono n.size);clear Lc Lh;go_wp2_with (refine QE _ rfl ?_)
 refine Stop.to ?_;refine Qi rfl 101 rfl _ _ (AfX _) rfl ?_;intro F Fw Fh Fr Fb;go_wp2_with (refine Qp _ _ _ rfl ?_)
 refine Stop.to ?_;refine Qq rfl 101 _ _ rfl F 0 rfl (.func (.func 35) #[] #[.pointer (some ⟨L, 0, none⟩)]) rfl [.func (.func 35) #[] #[.pointer (some ⟨L, 0, none⟩)]] rfl 101 _ #[.func (.func 35) #[] #[.pointer (some ⟨L, 0, none⟩)]] Fr (by kernel_rfl) (by show 0 + 1 ≤ 1; omega) (by simp [Value.oneCell']) rfl ?_;intro Fx Fs Fo;have Fc := (Fb.mono Fh).trans (Fo.below Fh);clear Fb Fr Fo;replace Cr := Cr.below Fc Cr.lt;replace Ls := Ls.below Fc Ls.lt;replace ac := Lv (ac.out.go Fc);replace ab := Lv (fun y hy => (ab.out y hy).go Fc);replace q := Lv (q.out.go Fc);replace n := n.trans (Fc.mono n.size);clear Fc Fh;go_wp2_with (refine QE _ rfl ?_)
 refine Stop.to ?_;refine Qi rfl 101 rfl _ _ (AfX _) rfl ?_;intro O Ow Oh Or Ob;go_wp2_with (refine Qp _ _ _ rfl ?_)
 refine Stop.to ?_;refine Qq rfl 101 _ _ rfl O 0 rfl (.func (.func 37) #[] #[.pointer (some ⟨C, 0, none⟩)]) rfl [.func (.func 37) #[] #[.pointer (some ⟨C, 0, none⟩)]] rfl 101 _ #[.func (.func 37) #[] #[.pointer (some ⟨C, 0, none⟩)]] Or (by kernel_rfl) (by show 0 + 1 ≤ 1; omega) (by simp [Value.oneCell']) rfl ?_;intro Ox Os Oo;have Oc := (Ob.mono Oh).trans (Oo.below Oh);clear Ob Or Oo;replace Cr := Cr.below Oc Cr.lt;replace Ls := Ls.below Oc Ls.lt;replace Fs := Fs.below Oc Fs.lt;replace ac := Lv (ac.out.go Oc);replace ab := Lv (fun y hy => (ab.out y hy).go Oc);replace q := Lv (q.out.go Oc);replace n := n.trans (Oc.mono n.size);clear Oc Oh;go_wp2_with (first | fail | (refine QE _ rfl ?_))
 refine Stop.to ?_;refine Qi rfl 106 rfl _ _ (Aj0 _) rfl ?_;intro M Mw Mh Mr Mb;go_wp2_with (refine Qp _ _ _ rfl ?_)
 refine Stop.to ?_;refine Qk rfl 106 _ _ rfl M #[.func (.func 39) #[] #[.pointer (some ⟨C, 0, none⟩)], .func (.func 41) #[] #[.pointer (some ⟨C, 0, none⟩)], .func (.func 42) #[] #[.pointer (some ⟨C, 0, none⟩)], .func (.func 43) #[] #[.pointer (some ⟨C, 0, none⟩)], .func (.func 45) #[] #[.pointer (some ⟨C, 0, none⟩), .pointer (some ⟨F, 0, none⟩)], .func (.func 47) #[] #[.pointer (some ⟨C, 0, none⟩), .pointer (some ⟨O, 0, none⟩)], .func (.func 48) #[] #[.pointer (some ⟨C, 0, none⟩)]] rfl rfl 106 _ Mr (by kernel_rfl) rfl (by simp [Value.oneCell']) ?_;intro Mx Ms Mo;have Mc := (Mb.mono Mh).trans (Mo.below Mh);clear Mb Mr Mo;replace Cr := Cr.below Mc Cr.lt;replace Ls := Ls.below Mc Ls.lt;replace Fs := Fs.below Mc Fs.lt;replace Os := Os.below Mc Os.lt;replace ac := Lv (ac.out.go Mc);replace ab := Lv (fun y hy => (ab.out y hy).go Mc);replace q := Lv (q.out.go Mc);replace n := n.trans (Mc.mono n.size);clear Mc Mh;obtain ⟨S, ak⟩ : ∃ S, S = (fun W => (Row W C 38 c.cells ∧ Row W L 44 #[.slice A xs.length ai] ∧ Row W F 101 #[.func (.func 35) #[] #[.pointer (some ⟨L, 0, none⟩)]] ∧ Row W O 101 #[.func (.func 37) #[] #[.pointer (some ⟨C, 0, none⟩)]]) ∧ (Rd W A (KF xs) ∧ (∀ y ∈ xs, DlT W y) ∧ CpOk W c) ∧ Below w.heap.size w W) := ⟨_, rfl⟩;have ah : St S := by rw [ak]; infer_instance
 have Hs : Hid (∀ W, S W → (Row W C 38 c.cells ∧ Row W L 44 #[.slice A xs.length ai] ∧ Row W F 101 #[.func (.func 35) #[] #[.pointer (some ⟨L, 0, none⟩)]] ∧ Row W O 101 #[.func (.func 37) #[] #[.pointer (some ⟨C, 0, none⟩)]]) ∧ (Rd W A (KF xs) ∧ (∀ y ∈ xs, DlT W y) ∧ CpOk W c)) := by show ∀ W, _; rw [ak]; exact fun W h => ⟨h.1, h.2.1⟩
 have af : Hid (∀ W, S W → Below w.heap.size w W) := by show ∀ W, _; rw [ak]; exact fun W h => h.2.2
 have g : S Mx := by rw [ak]; exact ⟨⟨Cr, Ls, Fs, Os⟩, ⟨ac.out, ab.out, q.out⟩, n⟩
 clear ak Cr Ls Fs Os ac ab q n;go_wp2_with fail
 go_step3
 go_wp2_with (refine wpList_load_row rfl 106 _ rfl M rfl 106 #[.func (.func 39) #[] #[.pointer (some ⟨C, 0, none⟩)], .func (.func 41) #[] #[.pointer (some ⟨C, 0, none⟩)], .func (.func 42) #[] #[.pointer (some ⟨C, 0, none⟩)], .func (.func 43) #[] #[.pointer (some ⟨C, 0, none⟩)], .func (.func 45) #[] #[.pointer (some ⟨C, 0, none⟩), .pointer (some ⟨F, 0, none⟩)], .func (.func 47) #[] #[.pointer (some ⟨C, 0, none⟩), .pointer (some ⟨O, 0, none⟩)], .func (.func 48) #[] #[.pointer (some ⟨C, 0, none⟩)]] (0, 0) _ Ms Tryz.underlying106 rfl (by kernel_rfl) ?_)
 clear Ms;go_loopw [8, 28] (fun e i wr => ∃ k : Nat, e = .int .i64 0 ∧ i = .int .i64 (k : Int) ∧ k ≤ 7 ∧ Hid (∀ j : Nat, j < k → es[j]? = some 0) ∧ S wr) (fun _ i _ => 7 - (intOf i).toNat)
 case atStart => exact ⟨0, rfl, rfl, Nat.zero_le _, Lv (fun j hj => by omega), g⟩
 case round =>
  clear g;obtain ⟨k, rfl, rfl, hk, o, g⟩ := hrel;have az : k = 0 ∨ k = 1 ∨ k = 2 ∨ k = 3 ∨ k = 4 ∨ k = 5 ∨ k = 6 ∨ k = 7 := by omega
  clear hk;rcases az with rfl | rfl | rfl | rfl | rfl | rfl | rfl | rfl
  · skip;have H1 := Lv (Ahd C c wr (Hs.out _ g).1.1 (Hs.out _ g).2.2.2);have aj : ∀ w : World, (Instr.index 106 (.agg #[.func (.func 39) #[] #[.pointer (some ⟨C, 0, none⟩)], .func (.func 41) #[] #[.pointer (some ⟨C, 0, none⟩)], .func (.func 42) #[] #[.pointer (some ⟨C, 0, none⟩)], .func (.func 43) #[] #[.pointer (some ⟨C, 0, none⟩)], .func (.func 45) #[] #[.pointer (some ⟨C, 0, none⟩), .pointer (some ⟨F, 0, none⟩)], .func (.func 47) #[] #[.pointer (some ⟨C, 0, none⟩), .pointer (some ⟨O, 0, none⟩)], .func (.func 48) #[] #[.pointer (some ⟨C, 0, none⟩)]]) (.int .i64 0)).run Tryz.prog w = .ok (.func (.func 39) #[] #[.pointer (some ⟨C, 0, none⟩)]) w := fun _ => by kernel_rfl
    go_wp2_with fail
    refine H1.out.mono ?_;rintro e w' ⟨rfl, n⟩;replace g := ah.go g n;clear H1 n;obtain ⟨v, hv⟩ : ∃ v, v = QP (QI c.p == 0) 23 := ⟨_, rfl⟩;have b : es[0]? = some v := by rw [ae.out, hv]; rfl
    rw [← hv];clear hv;by_cases l : v = 0
    · have u : (v != 0) = false := by simp [l]
      have s : Hid (∀ j : Nat, j < 0 + 1 → es[j]? = some 0) := fun j hj => by
       by_cases aa : j < 0
       · exact o.out j aa
       · obtain rfl : j = 0 := by omega
         rw [b, l]
      subst l;clear b o;go_wp2_with fail
      exact ⟨⟨0 + 1, by simp, by simp, by omega, s, g⟩, by simp [intOf]⟩
    · have u : (v != 0) = true := by simpa using l
      have Hf : Hid (orL es = v) := Jn o.out b l;clear b l o;go_wp2_with fail
      try rw [Exit.noGoto_ret]
      go_ret
      exact ⟨Zo (ad.out.trans Hf.out).symm, af.out _ g⟩
  · skip;have H1 := Lv (Ahe C c wr (Hs.out _ g).1.1 (Hs.out _ g).2.2.2);have aj : ∀ w : World, (Instr.index 106 (.agg #[.func (.func 39) #[] #[.pointer (some ⟨C, 0, none⟩)], .func (.func 41) #[] #[.pointer (some ⟨C, 0, none⟩)], .func (.func 42) #[] #[.pointer (some ⟨C, 0, none⟩)], .func (.func 43) #[] #[.pointer (some ⟨C, 0, none⟩)], .func (.func 45) #[] #[.pointer (some ⟨C, 0, none⟩), .pointer (some ⟨F, 0, none⟩)], .func (.func 47) #[] #[.pointer (some ⟨C, 0, none⟩), .pointer (some ⟨O, 0, none⟩)], .func (.func 48) #[] #[.pointer (some ⟨C, 0, none⟩)]]) (.int .i64 1)).run Tryz.prog w = .ok (.func (.func 41) #[] #[.pointer (some ⟨C, 0, none⟩)]) w := fun _ => by kernel_rfl
    go_wp2_with fail
    refine H1.out.mono ?_;rintro e w' ⟨rfl, n⟩;replace g := ah.go g n;clear H1 n;obtain ⟨v, hv⟩ : ∃ v, v = ZR c.p.params c.testsL c.fuel := ⟨_, rfl⟩;have b : es[1]? = some v := by rw [ae.out, hv]; rfl
    rw [← hv];clear hv;by_cases l : v = 0
    · have u : (v != 0) = false := by simp [l]
      have s : Hid (∀ j : Nat, j < 1 + 1 → es[j]? = some 0) := fun j hj => by
       by_cases aa : j < 1
       · exact o.out j aa
       · obtain rfl : j = 1 := by omega
         rw [b, l]
      subst l;clear b o;go_wp2_with fail
      exact ⟨⟨1 + 1, by simp, by simp, by omega, s, g⟩, by simp [intOf]⟩
    · have u : (v != 0) = true := by simpa using l
      have Hf : Hid (orL es = v) := Jn o.out b l;clear b l o;go_wp2_with fail
      try rw [Exit.noGoto_ret]
      go_ret
      exact ⟨Zo (ad.out.trans Hf.out).symm, af.out _ g⟩
  · skip;have H1 := Lv (Ahf C c wr (Hs.out _ g).1.1);have aj : ∀ w : World, (Instr.index 106 (.agg #[.func (.func 39) #[] #[.pointer (some ⟨C, 0, none⟩)], .func (.func 41) #[] #[.pointer (some ⟨C, 0, none⟩)], .func (.func 42) #[] #[.pointer (some ⟨C, 0, none⟩)], .func (.func 43) #[] #[.pointer (some ⟨C, 0, none⟩)], .func (.func 45) #[] #[.pointer (some ⟨C, 0, none⟩), .pointer (some ⟨F, 0, none⟩)], .func (.func 47) #[] #[.pointer (some ⟨C, 0, none⟩), .pointer (some ⟨O, 0, none⟩)], .func (.func 48) #[] #[.pointer (some ⟨C, 0, none⟩)]]) (.int .i64 2)).run Tryz.prog w = .ok (.func (.func 42) #[] #[.pointer (some ⟨C, 0, none⟩)]) w := fun _ => by kernel_rfl
    go_wp2_with fail
    refine H1.out.mono ?_;rintro e w' ⟨rfl, n⟩;replace g := ah.go g n;clear H1 n;obtain ⟨v, hv⟩ : ∃ v, v = QP (decide ((c.mts.length : Int) ≤ 2000)) 24 := ⟨_, rfl⟩;have b : es[2]? = some v := by rw [ae.out, hv]; rfl
    rw [← hv];clear hv;by_cases l : v = 0
    · have u : (v != 0) = false := by simp [l]
      have s : Hid (∀ j : Nat, j < 2 + 1 → es[j]? = some 0) := fun j hj => by
       by_cases aa : j < 2
       · exact o.out j aa
       · obtain rfl : j = 2 := by omega
         rw [b, l]
      subst l;clear b o;go_wp2_with fail
      exact ⟨⟨2 + 1, by simp, by simp, by omega, s, g⟩, by simp [intOf]⟩
    · have u : (v != 0) = true := by simpa using l
      have Hf : Hid (orL es = v) := Jn o.out b l;clear b l o;go_wp2_with fail
      try rw [Exit.noGoto_ret]
      go_ret
      exact ⟨Zo (ad.out.trans Hf.out).symm, af.out _ g⟩
  · skip;have H1 := Lv (Ahg C c wr (Hs.out _ g).1.1 (Hs.out _ g).2.2.2);have aj : ∀ w : World, (Instr.index 106 (.agg #[.func (.func 39) #[] #[.pointer (some ⟨C, 0, none⟩)], .func (.func 41) #[] #[.pointer (some ⟨C, 0, none⟩)], .func (.func 42) #[] #[.pointer (some ⟨C, 0, none⟩)], .func (.func 43) #[] #[.pointer (some ⟨C, 0, none⟩)], .func (.func 45) #[] #[.pointer (some ⟨C, 0, none⟩), .pointer (some ⟨F, 0, none⟩)], .func (.func 47) #[] #[.pointer (some ⟨C, 0, none⟩), .pointer (some ⟨O, 0, none⟩)], .func (.func 48) #[] #[.pointer (some ⟨C, 0, none⟩)]]) (.int .i64 3)).run Tryz.prog w = .ok (.func (.func 43) #[] #[.pointer (some ⟨C, 0, none⟩)]) w := fun _ => by kernel_rfl
    go_wp2_with fail
    refine H1.out.mono ?_;rintro e w' ⟨rfl, n⟩;replace g := ah.go g n;clear H1 n;obtain ⟨v, hv⟩ : ∃ v, v = QP (YX c.muts) 20 := ⟨_, rfl⟩;have b : es[3]? = some v := by rw [ae.out, hv]; rfl
    rw [← hv];clear hv;by_cases l : v = 0
    · have u : (v != 0) = false := by simp [l]
      have s : Hid (∀ j : Nat, j < 3 + 1 → es[j]? = some 0) := fun j hj => by
       by_cases aa : j < 3
       · exact o.out j aa
       · obtain rfl : j = 3 := by omega
         rw [b, l]
      subst l;clear b o;go_wp2_with fail
      exact ⟨⟨3 + 1, by simp, by simp, by omega, s, g⟩, by simp [intOf]⟩
    · have u : (v != 0) = true := by simpa using l
      have Hf : Hid (orL es = v) := Jn o.out b l;clear b l o;go_wp2_with fail
      try rw [Exit.noGoto_ret]
      go_ret
      exact ⟨Zo (ad.out.trans Hf.out).symm, af.out _ g⟩
  · skip;have H1 := Lv (Ahh C F L c A ai xs wr (Hs.out _ g).1.1 (Hs.out _ g).2.2.2 (Hs.out _ g).1.2.2.1 (Hs.out _ g).1.2.1 (Hs.out _ g).2.1 (by have := ay.out; omega) (Hs.out _ g).2.2.1 ao.out);have aj : ∀ w : World, (Instr.index 106 (.agg #[.func (.func 39) #[] #[.pointer (some ⟨C, 0, none⟩)], .func (.func 41) #[] #[.pointer (some ⟨C, 0, none⟩)], .func (.func 42) #[] #[.pointer (some ⟨C, 0, none⟩)], .func (.func 43) #[] #[.pointer (some ⟨C, 0, none⟩)], .func (.func 45) #[] #[.pointer (some ⟨C, 0, none⟩), .pointer (some ⟨F, 0, none⟩)], .func (.func 47) #[] #[.pointer (some ⟨C, 0, none⟩), .pointer (some ⟨O, 0, none⟩)], .func (.func 48) #[] #[.pointer (some ⟨C, 0, none⟩)]]) (.int .i64 4)).run Tryz.prog w = .ok (.func (.func 45) #[] #[.pointer (some ⟨C, 0, none⟩), .pointer (some ⟨F, 0, none⟩)]) w := fun _ => by kernel_rfl
    go_wp2_with fail
    refine H1.out.mono ?_;rintro e w' ⟨rfl, n⟩;replace g := ah.go g n;clear H1 n;obtain ⟨v, hv⟩ : ∃ v, v = QP (!c.mts.any fun x => !VE (xs.map DlV.d) x.m.d) 17 := ⟨_, rfl⟩;have b : es[4]? = some v := by rw [ae.out, hv]; rfl
    rw [← hv];clear hv;by_cases l : v = 0
    · have u : (v != 0) = false := by simp [l]
      have s : Hid (∀ j : Nat, j < 4 + 1 → es[j]? = some 0) := fun j hj => by
       by_cases aa : j < 4
       · exact o.out j aa
       · obtain rfl : j = 4 := by omega
         rw [b, l]
      subst l;clear b o;go_wp2_with fail
      exact ⟨⟨4 + 1, by simp, by simp, by omega, s, g⟩, by simp [intOf]⟩
    · have u : (v != 0) = true := by simpa using l
      have Hf : Hid (orL es = v) := Jn o.out b l;clear b l o;go_wp2_with fail
      try rw [Exit.noGoto_ret]
      go_ret
      exact ⟨Zo (ad.out.trans Hf.out).symm, af.out _ g⟩
  · skip;have H1 := Lv (Ahi C O c wr (Hs.out _ g).1.1 (Hs.out _ g).2.2.2 (Hs.out _ g).1.2.2.2);have aj : ∀ w : World, (Instr.index 106 (.agg #[.func (.func 39) #[] #[.pointer (some ⟨C, 0, none⟩)], .func (.func 41) #[] #[.pointer (some ⟨C, 0, none⟩)], .func (.func 42) #[] #[.pointer (some ⟨C, 0, none⟩)], .func (.func 43) #[] #[.pointer (some ⟨C, 0, none⟩)], .func (.func 45) #[] #[.pointer (some ⟨C, 0, none⟩), .pointer (some ⟨F, 0, none⟩)], .func (.func 47) #[] #[.pointer (some ⟨C, 0, none⟩), .pointer (some ⟨O, 0, none⟩)], .func (.func 48) #[] #[.pointer (some ⟨C, 0, none⟩)]]) (.int .i64 5)).run Tryz.prog w = .ok (.func (.func 47) #[] #[.pointer (some ⟨C, 0, none⟩), .pointer (some ⟨O, 0, none⟩)]) w := fun _ => by kernel_rfl
    go_wp2_with fail
    refine H1.out.mono ?_;rintro e w' ⟨rfl, n⟩;replace g := ah.go g n;clear H1 n;obtain ⟨v, hv⟩ : ∃ v, v = QP (!c.mts.any fun x => AaC c.tests.length x.m) 21 := ⟨_, rfl⟩;have b : es[5]? = some v := by rw [ae.out, hv]; rfl
    rw [← hv];clear hv;by_cases l : v = 0
    · have u : (v != 0) = false := by simp [l]
      have s : Hid (∀ j : Nat, j < 5 + 1 → es[j]? = some 0) := fun j hj => by
       by_cases aa : j < 5
       · exact o.out j aa
       · obtain rfl : j = 5 := by omega
         rw [b, l]
      subst l;clear b o;go_wp2_with fail
      exact ⟨⟨5 + 1, by simp, by simp, by omega, s, g⟩, by simp [intOf]⟩
    · have u : (v != 0) = true := by simpa using l
      have Hf : Hid (orL es = v) := Jn o.out b l;clear b l o;go_wp2_with fail
      try rw [Exit.noGoto_ret]
      go_ret
      exact ⟨Zo (ad.out.trans Hf.out).symm, af.out _ g⟩
  · skip;have H1 := Lv (Ahj C c wr (Hs.out _ g).1.1 (Hs.out _ g).2.2.2);have aj : ∀ w : World, (Instr.index 106 (.agg #[.func (.func 39) #[] #[.pointer (some ⟨C, 0, none⟩)], .func (.func 41) #[] #[.pointer (some ⟨C, 0, none⟩)], .func (.func 42) #[] #[.pointer (some ⟨C, 0, none⟩)], .func (.func 43) #[] #[.pointer (some ⟨C, 0, none⟩)], .func (.func 45) #[] #[.pointer (some ⟨C, 0, none⟩), .pointer (some ⟨F, 0, none⟩)], .func (.func 47) #[] #[.pointer (some ⟨C, 0, none⟩), .pointer (some ⟨O, 0, none⟩)], .func (.func 48) #[] #[.pointer (some ⟨C, 0, none⟩)]]) (.int .i64 6)).run Tryz.prog w = .ok (.func (.func 48) #[] #[.pointer (some ⟨C, 0, none⟩)]) w := fun _ => by kernel_rfl
    go_wp2_with fail
    refine H1.out.mono ?_;rintro e w' ⟨rfl, n⟩;replace g := ah.go g n;clear H1 n;obtain ⟨v, hv⟩ : ∃ v, v = QP (scB c.sc (Qx c.muts)) 22 := ⟨_, rfl⟩;have b : es[6]? = some v := by rw [ae.out, hv]; rfl
    rw [← hv];clear hv;by_cases l : v = 0
    · have u : (v != 0) = false := by simp [l]
      have s : Hid (∀ j : Nat, j < 6 + 1 → es[j]? = some 0) := fun j hj => by
       by_cases aa : j < 6
       · exact o.out j aa
       · obtain rfl : j = 6 := by omega
         rw [b, l]
      subst l;clear b o;go_wp2_with fail
      exact ⟨⟨6 + 1, by simp, by simp, by omega, s, g⟩, by simp [intOf]⟩
    · have u : (v != 0) = true := by simpa using l
      have Hf : Hid (orL es = v) := Jn o.out b l;clear b l o;go_wp2_with fail
      try rw [Exit.noGoto_ret]
      go_ret
      exact ⟨Zo (ad.out.trans Hf.out).symm, af.out _ g⟩
  · have Hf : Hid (orL es = 0) := Ah2 fun j x hx => by
     have hl : j < 7 := by have := (Ld.1 hx).1; rw [ae.out] at this; exact this
     have := o.out j hl;rw [hx] at this; injection this
    clear o;go_wp2_with fail
    try rw [Exit.noGoto_ret]
    go_ret
    exact ⟨Zo (ad.out.trans Hf.out).symm, af.out _ g⟩
end Go.Proofs.YtkoikjnlpifbjaaGreat
