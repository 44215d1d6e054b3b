/- Lemmas for RunnerJustP. -/
import Derived.Test.YtkoikjnlpifbjaaGreatZb1
import Derived.Test.YtkoikjnlpifbjaaGreatZb12
import Derived.Test.YtkoikjnlpifbjaaGreatZb11
import Derived.Test.YtkoikjnlpifbjaaGreatZb8
import Derived.Test.YtkoikjnlpifbjaaGreatZb5
import Derived.Lib.SlicesCompact
import Derived.Shelf.Small.Bits
import Derived.Shelf.Strconv.Itoa0
import Derived.Shelf.Sort.Plain
import Derived.Shelf.Bits.Mul64
import Derived.Shelf.Slices.Clone
import Derived.Shelf.Slices.CompactI
import Derived.Shelf.Slices.SearchI
import Derived.Shelf.Slices.Cells
import Derived.Shelf.Slices.In.SortNone
import Derived.Shelf.SlicesE.Clone
import Derived.Test.YtkoikjnlpifbjaaGreatRows
import Derived.WalkKit
set_option linter.unusedVariables false
set_option linter.unusedSimpArgs false
set_option maxRecDepth 100000
set_option maxHeartbeats 16000000
namespace Go.Proofs.YtkoikjnlpifbjaaGreat
open Go.RowKit Go.Deep
def Aax {α : Type} (p : α → Bool) (l : List α) : Int := match l.findIdx? p with | some i => (i : Int) | none => -1
theorem Ur {α : Type} {p : α → Bool} {l : List α} {k : Nat} {x : α} (h : ∀ y ∈ l.take k, p y = false) (hx : l[k]? = some x) (hp : p x = true) : Aax p l = (k : Int) := by
 unfold Aax;have b := (Ld.1 hx).1
 have : l.findIdx? p = some k := by
  rw [List.findIdx?_eq_some_iff_getElem];refine ⟨b, by rw [(Ld.1 hx).2]; exact hp, fun j c => ?_⟩;rw [h _ (List.mem_take_iff_getElem.2 ⟨j, by omega, rfl⟩)]; simp
 rw [this]
theorem VK {α : Type} {p : α → Bool} {l : List α} (h : ∀ y ∈ l, p y = false) : Aax p l = -1 := by
 unfold Aax;have : l.findIdx? p = none := by rw [List.findIdx?_eq_none_iff]; exact h
 rw [this]
theorem Uq {α : Type} (p : α → Bool) (l : List α) : decide (0 ≤ Aax p l) = l.any p := by
 unfold Aax;cases h : l.findIdx? p with
 | none =>
  rw [List.findIdx?_eq_none_iff] at h;simp; intro x d; simpa using h x d
 | some i =>
  rw [List.findIdx?_eq_some_iff_getElem] at h;obtain ⟨b, c, _⟩ := h;simp; exact ⟨l[i], List.getElem_mem b, c⟩
theorem J8 {α : Type} {p : α → Bool} {l : List α} {k : Nat} {x : α} (h : ∀ y ∈ l.take k, p y = false) (hx : l[k]? = some x) (hp : p x = false) : ∀ y ∈ l.take (k + 1), p y = false := by
 rw [LG, hx];intro y b;rcases L5.1 b with b | b
 · exact h y b
 · simp at b; subst b; exact hp
theorem Agk (A : Option Addr) (cap : Nat) (l : List Nd) (p : Nd → Bool) (w : World) (S : World → Prop) [stS : St S] (hS : S w) (hrd : ∀ W, S W → Rd W A (l.flatMap Nd.cells)) (hlo : ∀ W, S W → Below w.heap.size w W)
 (hp : ∀ x ∈ l, ∀ W, S W → Calls Tryz.prog 100 #[.agg x.cells.toArray] W fun e W' => e = .returned (.bool (p x)) ∧ Below W.heap.size W W') (hl : l.length ≤ 1000000) :
 Calls Tryz.prog 136 #[.slice A l.length cap, .func (.func 100) #[] #[]] w fun e w' => e = .returned (.int .i64 (Aax p l)) ∧ Below w.heap.size w w' := by
 have Hp := Lv hp;have s := Lv hrd;have m := Lv hlo;have ab : (l.length : Int) ≤ 1000000 := by omega
 clear hp hrd hlo hl;go_enter Tryz.func136, Tryz.ntmps136
 go_wp2
 go_loopw [8] (fun i wr => ∃ k : Nat, i = .int .i64 (k : Int) ∧ k ≤ l.length ∧ Hid (∀ y ∈ l.take k, p y = false) ∧ S wr) (fun i _ => l.length - (intOf i).toNat)
 case atStart => exact ⟨0, rfl, Nat.zero_le _, Lv (fun x g => by simp at g), hS⟩
 case round =>
  clear hS;obtain ⟨k, rfl, hk, b, hS⟩ := hrel;by_cases d : k < l.length
  · obtain ⟨x, g⟩ : ∃ x, l[k]? = some x := ⟨_, La d⟩;obtain ⟨v, t, o⟩ := JW (s.out _ hS) g;have h : Hid (∀ j u, x.cells[j]? = some u → wr.cell? ((v.add (k * 2)).add j) = some u) := o;have q := Lv g;have c := Lv (Hp.out x (Lj g) wr hS);have aa : (k : Int) < (l.length : Int) := by omega
    clear g d o;subst t;go_wp2_with (refine QF rfl 65 _ rfl (v.add (k * 2)) rfl x.cells _ h.out Tryz.underlying65 rfl (by kernel_rfl) ?_)
    refine c.out.mono ?_;rintro e w' ⟨rfl, z⟩;replace hS := stS.go hS z;clear z c h;cases hs : p x
    · have n := Lv (J8 b.out q.out hs);clear hs q;go_wp2_with fail
      go_roundw
      case rel => exact ⟨k + 1, by go_num, by omega, n, hS⟩
      case measure => simp [intOf]; omega
    · have n := Lv (Ur b.out q.out hs);clear hs q;go_wp2_with fail
      go_ret
      exact ⟨by rw [n.out]; rfl, m.out _ hS⟩
  · obtain rfl : k = l.length := by omega
    have n := Lv (VK (p := p) (l := l) (by have := b.out; rwa [LW] at this));clear d hk;go_wp2
    go_ret
    exact ⟨by rw [n.out]; rfl, m.out _ hS⟩
theorem Aeu (A : Option Addr) (cap : Nat) (l : List Nd) (p : Nd → Bool) (w : World) (S : World → Prop) [stS : St S] (hS : S w) (hrd : ∀ W, S W → Rd W A (l.flatMap Nd.cells)) (hlo : ∀ W, S W → Below w.heap.size w W)
 (hp : ∀ x ∈ l, ∀ W, S W → Calls Tryz.prog 100 #[.agg x.cells.toArray] W fun e W' => e = .returned (.bool (p x)) ∧ Below W.heap.size W W') (hl : l.length ≤ 1000000) :
 Calls Tryz.prog 99 #[.slice A l.length cap, .func (.func 100) #[] #[]] w fun e w' => e = .returned (.bool (l.any p)) ∧ Below w.heap.size w w' := by
 have b := Lv (Agk A cap l p w S hS hrd hlo hp hl);clear hp hrd hlo hl hS;go_enter Tryz.func99, Tryz.ntmps99
 go_wp2_with fail
 refine b.out.mono ?_;rintro e w' ⟨rfl, d⟩;have c := Lv (Uq p l);clear b;go_wp2_with fail
 go_ret
 exact ⟨ZU c.out.symm, d⟩
theorem Aep (x : Nd) (w : World) :
 Calls Tryz.prog 100 #[.agg x.cells.toArray] w fun e w' => e = .returned (.bool (decide (Qu x < 0))) ∧ Below w.heap.size w w' := by
 go_enter Tryz.func100, Tryz.ntmps100
 go_wp2_with (refine Qm _ _ rfl ?_)
 refine Stop.to ?_;refine Qe rfl 65 _ rfl x.cells.toArray rfl ?_;intro G j d g c;have b := (Below.refl w.heap.size w).trans (c.mono d);have h := Lv (XJ x j);clear c d;go_wp2_with (refine wpList_load_row rfl 65 _ rfl G rfl 65 x.cells.toArray (0, 0) _ g Tryz.underlying65 rfl (by kernel_rfl) ?_)
 refine h.out.mono ?_;rintro e l ⟨rfl, i⟩;have k := b.trans (i.mono b.size);clear h g b i;go_wp2_with fail
 go_ret
 exact ⟨rfl, k⟩
structure CpV where
 p : PgV
 tA : Option Addr
 tcap : Nat
 tests : List IntsV
 fuel : Int
 mA : Option Addr
 mcap : Nat
 mts : List MtV
 sc : Sc
def CpV.cells (c : CpV) : Array Value := #[.int .i64 c.p.params, .slice c.p.va c.p.V.length c.p.vcap, .slice c.p.ba c.p.body.length c.p.bcap, .slice c.tA c.tests.length c.tcap, .int .i64 c.fuel, .slice c.mA c.mts.length c.mcap, .int .i64 c.sc.alive, .int .i64 c.sc.killed, .int .i64 c.sc.timeout]
structure CpOk (W : World) (c : CpV) : Prop where
 pok : c.p.ok W
 bl : c.p.body.length ≤ 1000
 vl : c.p.V.length ≤ 1000
 trd : Rd W c.tA (Ji c.tests)
 tok : ∀ x ∈ c.tests, x.ok W
 tlen : c.tests.length ≤ 1000
 tl : ∀ x ∈ c.tests, x.l.length ≤ 1000
 tnil : c.tA = none → c.tests = []
 mrd : Rd W c.mA (J9 c.mts)
 mok : ∀ x ∈ c.mts, MtOk W x
 mlen : c.mts.length ≤ 100000
 mnil : c.mA = none → c.mts = []
theorem CpOk.go {W W' : World} {c : CpV} (h : CpOk W c) (b : Below W.heap.size W W') : CpOk W' c :=
 ⟨h.pok.go b, h.bl, h.vl, h.trd.go b, fun x hx => (h.tok x hx).go b, h.tlen, h.tl, h.tnil, h.mrd.go b, fun x hx => (h.mok x hx).go b, h.mlen, h.mnil⟩
instance St.cpok {c : CpV} : St (fun W => CpOk W c) := ⟨fun h b => h.go b⟩
def CpV.testsL (c : CpV) : List (List Int) := c.tests.map IntsV.l
def CpV.muts (c : CpV) : List Mt := c.mts.map MtV.m
theorem Aft {W : World} {G : Nat} {t : TypeId} {c : CpV} (h : Row W G t c.cells) : ∀ j v, c.p.cells.toList[j]? = some v → W.cell? ((⟨G, 0, none⟩ : Addr).add j) = some v :=
 Row.from_ (cur := c.cells) h 0 (fun j v hj => by
  match j, hj with
  | 0, hj | 1, hj | 2, hj => exact hj
  | j + 3, hj => simp [PgV.cells] at hj)
def Ew (l : List IntsV) : Bool := decide (l.length ≤ 40 ∧ ∀ x ∈ l, x.l.length ≤ 40)
theorem AaI {α : Type} {p : α → Prop} {l : List α} {k : Nat} {x : α} (h : ∀ y ∈ l.take k, p y) (hx : l[k]? = some x) (hp : p x) : ∀ y ∈ l.take (k + 1), p y := by
 rw [LG, hx];intro y b;rcases L5.1 b with b | b
 · exact h y b
 · simp at b; subst b; exact hp
theorem Ahv (A : Option Addr) (cap : Nat) (l : List IntsV) (w : World) (hr : Rd w A (Ji l)) :
 Calls Tryz.prog 59 #[.slice A l.length cap] w fun e w' => e = .returned (.bool (Ew l)) ∧ w = w' := by
 have Hr := Lv hr;clear hr;by_cases b : l.length ≤ 40;rotate_left
 · have d : Ew l = false := by unfold Ew; rw [decide_eq_false_iff_not]; exact fun h => b h.1
   have j := Lv d;have s : (40 : Int) < (l.length : Int) := by omega
   clear d b;go_enter Tryz.func59, Tryz.ntmps59
   go_wp2
   go_ret
   exact ⟨ZU j.out, rfl⟩
 have s : (l.length : Int) ≤ 40 := by omega
 have q := Lv b;clear b;go_enter Tryz.func59, Tryz.ntmps59
 go_wp2
 go_loop [3] (fun i => ∃ k : Nat, i = .int .i64 (k : Int) ∧ k ≤ l.length ∧ Hid (∀ x ∈ l.take k, x.l.length ≤ 40)) (fun i => l.length - (intOf i).toNat)
 case atStart => exact ⟨0, rfl, Nat.zero_le _, Lv (fun x n => by simp at n)⟩
 case round =>
  obtain ⟨k, rfl, hk, c⟩ := hrel;by_cases g : k < l.length
  · obtain ⟨x, n⟩ : ∃ x, l[k]? = some x := ⟨_, La g⟩;obtain ⟨ad, t, m⟩ := Kj Hr.out n;have hc : w.cell? (ad.add k) = some (.slice x.addr x.l.length x.cap) := m;have v := Lv n;have y : (k : Int) < (l.length : Int) := by omega
    clear n g m;subst t;by_cases o : x.l.length ≤ 40
    · have u : (x.l.length : Int) ≤ 40 := by omega
      have z := Lv (AaI (p := fun x : IntsV => x.l.length ≤ 40) c.out v.out o);clear o;go_wp2
      go_round
      case rel => exact ⟨k + 1, by go_num, by omega, z⟩
      case measure => simp [intOf]; omega
    · have u : (40 : Int) < (x.l.length : Int) := by omega
      have d : Ew l = false := by unfold Ew; rw [decide_eq_false_iff_not]; exact fun h => o (h.2 x (Lj v.out))
      have j := Lv d;clear d o;go_wp2
      go_ret
      exact ⟨ZU j.out, rfl⟩
  · obtain rfl : k = l.length := by omega
    have d : Ew l = true := by unfold Ew; rw [decide_eq_true_eq]; exact ⟨q.out, by have := c.out; rwa [LW] at this⟩
    have j := Lv d;clear d g hk;go_wp2
    go_ret
    exact ⟨ZU j.out, rfl⟩
theorem XI (a : Addr) : a.add 0 = a := by unfold Addr.add; rw [if_pos rfl]
theorem Aee (A : Option Addr) (cap : Nat) (l : List Nd) (w : World) (hr : Rd w A (l.flatMap Nd.cells)) (hl : l.length ≤ 1000) :
 Calls Tryz.prog 60 #[.slice A l.length cap] w fun e w' => e = .returned (.int .i64 (ZS l)) ∧ Below w.heap.size w w' := by
 by_cases k : l.length = 0
 · have c := Lv (AcE k);rw [k];clear hr hl k;go_enter Tryz.func60, Tryz.ntmps60
   go_wp2_with fail
   go_ret
   exact ⟨Zo c.out.symm, Below.refl _ _⟩
 have e0 : ((l.length : Int) == 0) = false := by rw [beq_eq_false_iff_ne]; omega
 by_cases p : 200 < l.length
 · have c := Lv (AcF p);have e1 : 200 < (l.length : Int) := by omega
   clear hr hl k p;go_enter Tryz.func60, Tryz.ntmps60
   go_wp2_with fail
   go_ret
   exact ⟨Zo c.out.symm, Below.refl _ _⟩
 have e1 : ¬ (200 < (l.length : Int)) := by omega
 have u := Lv (Aeu A cap l (fun x => decide (Qu x < 0)) w (fun W => Rd W A (l.flatMap Nd.cells) ∧ Below w.heap.size w W) ⟨hr, Below.refl _ _⟩ (fun W h => h.1) (fun W h => h.2) (fun x _ W _ => Aep x W) (by omega));have He := Lv (fun W h => JV A cap l (0 : Int) W h hl);have Hr := Lv hr;have z := Lv k;have s := Lv p;have Hl := Lv hl;clear hr hl k p;obtain ⟨b, n⟩ : ∃ b, b = l.any fun x => decide (Qu x < 0) := ⟨_, rfl⟩;rw [← n] at u;go_enter Tryz.func60, Tryz.ntmps60
 go_wp2_with fail
 refine u.out.mono ?_;rintro e w1 ⟨rfl, g⟩;clear u;cases b;rotate_left
 · obtain ⟨x, i, o⟩ := List.any_eq_true.1 n.symm;have c := Lv (AcG z.out s.out i (by simpa using o));clear n i o;go_wp2_with fail
   go_ret
   exact ⟨Zo c.out.symm, g⟩
 have h2 : ∀ x ∈ l, ¬ Qu x < 0 := fun x i o => by
  have := N8.1 n.symm x i;simp at this; omega
 have H2 := Lv h2;clear n h2;go_wp2_with fail
 refine (He.out w1 (Hr.out.go g)).mono ?_;rintro e q ⟨rfl, b2⟩;replace g := g.trans (b2.mono g.size);clear b2 He;by_cases m : endZ l 0 = (l.length : Int);rotate_left
 · have c := Lv (AcH z.out s.out (fun x i o => by have := H2.out x i; omega) m);have e3 : (endZ l 0 != (l.length : Int)) = true := by simpa using m
   clear m;go_wp2_with fail
   go_ret
   exact ⟨Zo c.out.symm, g⟩
 obtain ⟨t, y⟩ := Whole.of m;have e3 : ((l.length : Int) != (l.length : Int)) = false := by simp
 have c := Lv (Ed s.out (fun x i o => by have := H2.out x i; omega) y);have v : Hid (Calls Tryz.prog 103 #[.slice A l.length cap, .int .i64 0] q fun e w' => e = .returned (.int .i64 (Yh t)) ∧ Below q.heap.size q w') := Aga A cap l Hl.out t.size t 0 (Nat.le_refl _) y.hat q (Hr.out.go g);rw [m];clear m y;obtain ⟨d, hd⟩ : ∃ d, d = Yh t := ⟨_, rfl⟩;rw [← hd] at v c;clear hd;go_wp2_with fail
 refine v.out.mono ?_;rintro e w3 ⟨rfl, b3⟩;replace g := g.trans (b3.mono g.size);clear b3 v;by_cases h4 : 30 < d
 · have j : Hid (ZS l = 13) := by have := c.out; rw [if_pos h4] at this; exact this
   clear c;go_wp2_with fail
   go_ret
   exact ⟨Zo j.out.symm, g⟩
 · have j : Hid (ZS l = 0) := by have := c.out; rw [if_neg h4] at this; exact this
   clear c;go_wp2_with fail
   go_ret
   exact ⟨Zo j.out.symm, g⟩
theorem X6 (p : PgV) (hbl : p.body.length ≤ 1000) (w : World) (hok : p.ok w) :
 Calls Tryz.prog 24 #[.agg p.cells] w fun e w' => e = .returned (.int .i64 (QI p)) ∧ Below w.heap.size w w' := by
 have s := Lv hbl;have u := Lv hok;clear hbl hok;go_enter Tryz.func24, Tryz.ntmps24
 go_wp2_with (refine Qm _ _ rfl ?_)
 refine Stop.to ?_;refine Qe rfl 25 _ rfl p.cells rfl ?_;intro G Gw Gh j Gb;have c := (Below.refl w.heap.size w).trans (Gb.mono Gh);have b := Lv (u.out.go c);have c2 := j.cellv (i := 2) (v := .slice p.ba p.body.length p.bcap) rfl;have m := Lv (Aee p.ba p.bcap p.body Gw b.out.brd s.out);clear Gb Gh u;go_wp2_with fail
 refine m.out.mono ?_;rintro e w1 ⟨rfl, g⟩;replace j := j.below g j.lt;replace c := c.trans (g.mono c.size);replace b := Lv (b.out.go g);clear g m c2;obtain ⟨a, o⟩ : ∃ a, a = ZS p.body := ⟨_, rfl⟩;rw [← o];by_cases n : a = 0;rotate_left
 · have l : Hid (QI p = a) := by show _ = _; rw [AcI (by rw [← o]; exact n), ← o]
   have e0 : (a != 0) = true := by simpa using n
   clear o n;go_wp2_with fail
   go_ret
   exact ⟨Zo l.out.symm, c⟩
 subst n;have q := Lv o.symm;have m := Lv (Ad3 p w1 b.out);clear o;go_wp2_with (refine wpList_load_row rfl 25 _ rfl G rfl 25 p.cells (0, 0) _ j Tryz.underlying25 rfl (by kernel_rfl) ?_)
 refine m.out.mono ?_;rintro e w2 ⟨rfl, g⟩;replace j := j.below g j.lt;replace c := c.trans (g.mono c.size);replace b := Lv (b.out.go g);clear g m;obtain ⟨v, z⟩ : ∃ v, v = Jt p.params p.V := ⟨_, rfl⟩;rw [← z];by_cases n : v = 0;rotate_left
 · have ae : v = 14 := by rcases YF p.params p.V with h | h <;> omega
   have l : Hid (QI p = 14) := AcJ q.out (by rw [← z]; exact n);subst ae;clear z n;go_wp2_with fail
   go_ret
   exact ⟨Zo l.out.symm, c⟩
 subst n;have Hv := Lv z.symm;obtain ⟨ai, ag, t, ht, ah⟩ := AaU q.out;have x := Lv ht;have m : Hid (∀ W, p.ok W → Calls Tryz.prog 62 #[.agg p.cells, .int .i64 0] W fun e w' => e = .returned (.int .i64 (ofT p.V t)) ∧ Below W.heap.size W w') := fun W h => Adc p s.out t 0 x.out.hat W h
 obtain ⟨ad, af, hc⟩ := JW b.out.brd ht.hat.root;have c2 := j.cellv (i := 2) (v := .slice p.ba p.body.length p.bcap) rfl;have c0 := hc 0 _ rfl;have aj : (0 : Int) < (p.body.length : Int) := by have := ht.pos; omega
 simp only [Nat.zero_mul, XI] at c0;rw [af] at c2;have ab : Hid (Xj p.params p.V) := by rcases YF p.params p.V with h | h; exact h.2; have := Hv.out; omega
 clear z ai ag ah ht hc;by_cases d : t.root.tag = 20;rotate_left
 · have l : Hid (QI p = 15) := Ee q.out Hv.out (Ku x.out.hat (fun h => d h.1));have ac : (t.root.tag != 20) = true := by simpa using d
   clear d;go_wp2_with fail
   go_ret
   exact ⟨Zo l.out.symm, c⟩
 have ac : (t.root.tag != 20) = false := by simp [d]
 have aa := Lv d;clear d;go_wp2_with (refine Ko rfl 25 _ rfl G rfl 25 p.cells (0, 0) _ j Tryz.underlying25 rfl (by kernel_rfl) ?_)
 refine (m.out w2 b.out).mono ?_;rintro e w3 ⟨rfl, g⟩;replace c := c.trans (g.mono c.size);clear g m c0 c2;obtain ⟨k, y⟩ : ∃ k, k = ofT p.V t := ⟨_, rfl⟩;rw [← y];by_cases h2 : k = 2
 · subst h2;have l : Hid (QI p = 0) := AcK q.out Hv.out ⟨x.out.hat, x.out.size, ab.out, aa.out, y.symm⟩;clear y;go_wp2_with fail
   go_ret
   exact ⟨Zo l.out.symm, c⟩
 · have l : Hid (QI p = 15) := Ee q.out Hv.out (Ku x.out.hat (fun h => h2 (by rw [y]; exact h.2)));have e2 : (k != 2) = true := by simpa using h2
   clear y h2;go_wp2_with fail
   go_ret
   exact ⟨Zo l.out.symm, c⟩
def XW (l : List Nd) : Int → List Int → Int
 | a, [] => a
 | a, i :: π => if i < 0 ∨ ((kidsZ l a).length : Int) ≤ i then -1 else XW l (((kidsZ l a)[i.toNat]?).getD 0) π
def K7 (l : List Nd) (π : List Int) : Int := if endZ l 0 = (l.length : Int) then XW l 0 π else -1
theorem Abw {l : List Nd} {a i : Int} {π : List Int} {k : Nat} (hi : π[k]? = some i) (h : i < 0 ∨ ((kidsZ l a).length : Int) ≤ i) : XW l a (π.drop k) = -1 := by
 have c := (Ld.1 hi).1;have b := (Ld.1 hi).2;rw [LO c, b, XW, if_pos h]
theorem AiA {l : List Nd} {a b : Int} {π : List Int} {k j : Nat} (hi : π[k]? = some (j : Int)) (h : (kidsZ l a)[j]? = some b) : XW l a (π.drop k) = XW l b (π.drop (k + 1)) := by
 have d := (Ld.1 hi).1;have c := (Ld.1 hi).2;have e := (Ld.1 h).1;rw [LO d, c, XW, if_neg (by omega), L1, h];rfl
theorem Aap {l : List Nd} : ∀ (π : List Int) (q : Nat) (t : Tr), At l q t → XW l (q : Int) π = match ZL π q t with | some (r, _) => (r : Int) | none => -1
 | [], q, t, _ => by rw [XW, ZL]
 | i :: π, q, .node x ks, h => by
  have hk := h.kidsZ
  have hkl : (kidsZ l (q : Int)).length = ks.length := by rw [hk, Lz, JR]; rfl
  rw [XW, ZL]
  by_cases h0 : i < 0
  · rw [if_pos (Or.inl h0), if_pos h0]
  rw [if_neg h0]
  by_cases h1 : ((kidsZ l (q : Int)).length : Int) ≤ i
  · rw [if_pos (Or.inr h1)]
    have h2 : ks[i.toNat]? = none := Nt (by omega)
    rw [h2]
    split
    · rename_i h3; split at h3 <;> simp_all
    · rfl
  rw [if_neg (by omega)]
  obtain ⟨k, hk2⟩ : ∃ k, ks[i.toNat]? = some k := ⟨_, La (by omega)⟩
  obtain ⟨r, hr⟩ := Aca (p := q + 1) hk2
  have hr2 : (kidsZ l (q : Int))[i.toNat]? = some (r : Int) := by rw [hk, L6, show (Tr.node x ks).kids = ks from rfl, hr]; rfl
  rw [hr2, LZ, hr, hk2]
  exact Aap π r k (h.kids.spot i.toNat r k hr hk2).1
end Go.Proofs.YtkoikjnlpifbjaaGreat
namespace Go.Proofs.YtkoikjnlpifbjaaGreat
open Go.RowKit
theorem AfC (a : Int) : ∀ l : List Int, (Aay a l).length ≤ l.length + 1
 | [] => by simp [Aay]
 | b :: l => by
  rw [Aay]
  split
  · simp
  · split
    · simp
    · have := AfC a l; simp; omega
theorem Aai : ∀ l : List Int, (Xg l).length ≤ l.length
 | [] => by simp [Xg]
 | a :: l => by have := AfC a (Xg l); have := Aai l; rw [Xg]; simp; omega
theorem EY : ∀ {l : List Int}, l.Pairwise (· < ·) → JQ l
 | [], _ => trivial
 | [_], _ => trivial
 | a :: b :: l, h => by
  rw [Nl] at h
  exact ⟨h.1 b (by simp), EY h.2⟩
theorem AbG {s : List Int} (hs : s.Pairwise (· ≤ ·)) : JQ (Lib.compact s) ∧ ∀ x, x ∈ Lib.compact s ↔ x ∈ s := by
 have c : ∀ j, j < s.length → ∃ x, s[j]? = some x ∧ s.toArray[j]! = x := fun j m => ⟨s[j], La m, by simp [m]⟩
 have l : ∀ i j x y, i ≤ j → s[i]? = some x → s[j]? = some y → x ≤ y := fun i j x y t q g => by
  rcases Nat.lt_or_eq_of_le t with h | h
  · obtain ⟨h1, rfl⟩ := Ld.1 q;obtain ⟨h2, rfl⟩ := Ld.1 g;exact N3.1 hs i j h1 h2 h
  · subst h; rw [q] at g; injection g with g; omega
 constructor
 · refine EY ?_;unfold Lib.compact Lib.compactUpTo;rw [NJ, List.pairwise_filter];rw [N3];intro i j hi m t ae o;simp only [List.getElem_range] at *;rw [List.length_range] at hi m;unfold Lib.keeps at o;rw [decide_eq_true_eq] at o;obtain ⟨x, q, ab⟩ := c i hi;obtain ⟨y, g, d⟩ := c j m;obtain ⟨z, v, p⟩ := c (j - 1) (by omega);rw [ab, d];rw [d, p] at o;have h1 := l i (j - 1) x z (by omega) q v;have h2 := l (j - 1) j z y (by omega) v g;rcases o with h | h <;> omega
 · intro x;unfold Lib.compact Lib.compactUpTo;rw [LR];constructor
   · rintro ⟨j, m, rfl⟩;have aa := NA.1 (Nq.1 m).1;obtain ⟨y, g, d⟩ := c j aa;rw [d]; exact Lj g
   · intro q;obtain ⟨j, m, b⟩ := N0 q
     have : ∀ (n j : Nat), j ≤ n → s[j]? = some x → ∃ a : Nat, a ∈ (List.range s.length).filter (Lib.keeps s.toArray) ∧ s.toArray[a]! = x := by
      intro n
      induction n with
      | zero =>
       intro j w b;obtain rfl : j = 0 := by omega
       have k := (Ld.1 b).1;obtain ⟨y, g, d⟩ := c 0 k;rw [g] at b; injection b with b;exact ⟨0, Nq.2 ⟨NA.2 k, by simp [Lib.keeps]⟩, by rw [d, b]⟩
      | succ n ih =>
       intro j ad b;have k := (Ld.1 b).1;obtain ⟨y, g, d⟩ := c j k;rw [g] at b; injection b with b;subst b;by_cases u : Lib.keeps s.toArray j = true
       · exact ⟨j, Nq.2 ⟨NA.2 k, u⟩, d⟩
       · unfold Lib.keeps at u;rw [decide_eq_true_eq] at u;have w : j ≠ 0 := fun e => u (.inl e)
         obtain ⟨z, v, p⟩ := c (j - 1) (by omega)
         have ac : z = y := by
          rcases Decidable.em (s.toArray[j]! = s.toArray[j - 1]!) with e | e
          · rw [d, p] at e; exact e.symm
          · exact absurd (.inr e) u
         exact ih (j - 1) (by omega) (by rw [v, ac])
     exact this j j (Nat.le_refl _) (by rw [La m, b])
theorem AgP (l : List Int) : Lib.compact (l.mergeSort fun x y => decide (x ≤ y)) = Xg l := by
 have g : (l.mergeSort fun x y => decide (x ≤ y)).Pairwise (· ≤ ·) := by
  have := List.pairwise_mergeSort (le := fun x y : Int => decide (x ≤ y)) (fun a b c => by simp; omega) (fun a b => by simp; omega) l;exact this.imp (by simp)
 obtain ⟨d, e⟩ := AbG g;refine Va d (Xi l) fun x => ?_
 rw [e, YT];exact (List.mergeSort_perm l _).mem_iff
end Go.Proofs.YtkoikjnlpifbjaaGreat
namespace Go.Proofs.YtkoikjnlpifbjaaGreat
open Go.Shelf
def Adf : Go.Shelf.Ren := ⟨fun | 189 => 229 | 125 => 234 | 257 => 233 | 128 => 245 | 129 => 246 | 294 => 236 | 295 => 237 | 296 => 238 | 297 => 239 | 298 => 240 | 299 => 241 | 216 => 242 | 300 => 243 | 301 => 244 | 328 => 247 | 329 => 248 | 330 => 249 | 331 => 250 | 332 => 251 | 215 => 126 | 343 => 252 | n => n, fun | 28 => 22 | 3 => 3 | 46 => 251 | 0 => 0 | 51 => 77 | 53 => 207 | 4 => 4 | 183 => 317 | 182 => 316 | 131 => 188 | 5 => 5 | 9 => 9 | 218 => 324 | 222 => 161 | 228 => 329 | 229 => 224 | n => n, fun | n => n⟩
theorem Ajp : Go.Proofs.Lays.n189 Tryz.prog Adf := {
 mixed := by kernel_rfl
 f125 := Tryz.func234.trans (congrArg some (by kernel_rfl))
 f128 := Tryz.func245.trans (congrArg some (by kernel_rfl))
 f129 := Tryz.func246.trans (congrArg some (by kernel_rfl))
 f189 := Tryz.func229.trans (congrArg some (by kernel_rfl))
 f215 := Tryz.func126.trans (congrArg some (by kernel_rfl))
 f216 := Tryz.func242.trans (congrArg some (by kernel_rfl))
 f257 := Tryz.func233.trans (congrArg some (by kernel_rfl))
 f294 := Tryz.func236.trans (congrArg some (by kernel_rfl))
 f295 := Tryz.func237.trans (congrArg some (by kernel_rfl))
 f296 := Tryz.func238.trans (congrArg some (by kernel_rfl))
 f297 := Tryz.func239.trans (congrArg some (by kernel_rfl))
 f298 := Tryz.func240.trans (congrArg some (by kernel_rfl))
 f299 := Tryz.func241.trans (congrArg some (by kernel_rfl))
 f300 := Tryz.func243.trans (congrArg some (by kernel_rfl))
 f301 := Tryz.func244.trans (congrArg some (by kernel_rfl))
 f328 := Tryz.func247.trans (congrArg some (by kernel_rfl))
 f329 := Tryz.func248.trans (congrArg some (by kernel_rfl))
 f330 := Tryz.func249.trans (congrArg some (by kernel_rfl))
 f331 := Tryz.func250.trans (congrArg some (by kernel_rfl))
 f332 := Tryz.func251.trans (congrArg some (by kernel_rfl))
 f343 := Tryz.func252.trans (congrArg some (by kernel_rfl))
 t0 := Tryz.underlying0
 a0 := Tryz.isAgg0
 z0 := Tryz.sizeOf0
 v0 := Tryz.zeroValue0
 t3 := Tryz.underlying3
 a3 := Tryz.isAgg3
 z3 := Tryz.sizeOf3
 v3 := Tryz.zeroValue3
 t4 := Tryz.underlying4
 a4 := Tryz.isAgg4
 z4 := Tryz.sizeOf4
 v4 := Tryz.zeroValue4
 t5 := Tryz.underlying5
 a5 := Tryz.isAgg5
 z5 := Tryz.sizeOf5
 v5 := Tryz.zeroValue5
 t9 := Tryz.underlying9
 a9 := Tryz.isAgg9
 z9 := Tryz.sizeOf9
 v9 := Tryz.zeroValue9
 t28 := Tryz.underlying22
 a28 := Tryz.isAgg22
 z28 := Tryz.sizeOf22
 v28 := Tryz.zeroValue22
 t46 := Tryz.underlying251
 a46 := Tryz.isAgg251
 z46 := Tryz.sizeOf251
 v46 := Tryz.zeroValue251
 t51 := Tryz.underlying77
 a51 := Tryz.isAgg77
 z51 := Tryz.sizeOf77
 v51 := Tryz.zeroValue77
 t53 := Tryz.underlying207
 a53 := Tryz.isAgg207
 z53 := Tryz.sizeOf207
 v53 := Tryz.zeroValue207
 t131 := Tryz.underlying188
 a131 := Tryz.isAgg188
 z131 := Tryz.sizeOf188
 v131 := Tryz.zeroValue188
 t182 := Tryz.underlying316
 a182 := Tryz.isAgg316
 z182 := Tryz.sizeOf316
 v182 := Tryz.zeroValue316
 t183 := Tryz.underlying317
 a183 := Tryz.isAgg317
 z183 := Tryz.sizeOf317
 v183 := Tryz.zeroValue317
 t218 := Tryz.underlying324
 a218 := Tryz.isAgg324
 z218 := Tryz.sizeOf324
 v218 := Tryz.zeroValue324
 t222 := Tryz.underlying161
 a222 := Tryz.isAgg161
 z222 := Tryz.sizeOf161
 v222 := Tryz.zeroValue161
 t228 := Tryz.underlying329
 a228 := Tryz.isAgg329
 z228 := Tryz.sizeOf329
 v228 := Tryz.zeroValue329
 t229 := Tryz.underlying224
 a229 := Tryz.isAgg224
 z229 := Tryz.sizeOf224
 v229 := Tryz.zeroValue224 }
open Go.Sort Go.RowKit in
theorem slices_Sort_int (blk off cap : Nat) (zs : List Int) (w : World) (hH : Holds (Value.int .i64) w blk off zs.toArray) (hblk : blk < w.heap.size) (hsz : zs.length < 4611686018427387904) :
 Calls Tryz.prog 229 #[.slice (some ⟨blk, off, none⟩) zs.length cap] w fun e w' =>
  e = .returned (.tuple #[]) ∧ ∃ n os, w' = grow (putRow (Value.int .i64) (Sort.ahead w n) blk off (zs.mergeSort fun x y => decide (x ≤ y)).toArray) os := Any.slices_Sort_int Ajp blk off cap zs w hH hblk hsz
def Aaz : Go.Shelf.Ren := ⟨fun | 20 => 230 | n => n, fun | 22 => 22 | 3 => 3 | 4 => 4 | 0 => 0 | n => n, fun | n => n⟩
theorem Agq : Go.Proofs.Lays2.n20 Tryz.prog Aaz := {
 mixed := by kernel_rfl
 f20 := Tryz.func230.trans (congrArg some (by kernel_rfl))
 t0 := Tryz.underlying0
 a0 := Tryz.isAgg0
 z0 := Tryz.sizeOf0
 v0 := Tryz.zeroValue0
 t3 := Tryz.underlying3
 a3 := Tryz.isAgg3
 z3 := Tryz.sizeOf3
 v3 := Tryz.zeroValue3
 t4 := Tryz.underlying4
 a4 := Tryz.isAgg4
 z4 := Tryz.sizeOf4
 v4 := Tryz.zeroValue4
 t22 := Tryz.underlying22
 a22 := Tryz.isAgg22
 z22 := Tryz.sizeOf22
 v22 := Tryz.zeroValue22
 i3 := by kernel_rfl }
open Go.RowKit Go.Lib Go.Sort in
theorem slices_Compact_int (blk off cap : Nat) (zs : List Int) (w : World) (hH : Holds (Value.int .i64) w blk off zs.toArray) (hsz : zs.length ≤ 9223372036854775807) (hcap : zs.length ≤ cap) :
 Calls Tryz.prog 230 #[.slice (some ⟨blk, off, none⟩) zs.length cap] w fun e w' => e = .returned (.slice (some ⟨blk, off, none⟩) (Lib.compact zs).length cap) ∧ ∃ q, w' = putRow (Value.int .i64) (Sort.ahead w q) blk off (Lib.compact zs ++ List.replicate (zs.length - (Lib.compact zs).length) 0).toArray := Any.slices_Compact_int Agq blk off cap zs w hH hsz hcap
end Go.Proofs.YtkoikjnlpifbjaaGreat
