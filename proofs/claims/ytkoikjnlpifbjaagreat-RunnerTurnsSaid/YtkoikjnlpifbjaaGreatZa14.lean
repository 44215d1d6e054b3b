/- Lemmas for RunnerTurnsP. -/
import Derived.Test.YtkoikjnlpifbjaaGreatZa1
import Derived.Test.YtkoikjnlpifbjaaGreatZa13
import Derived.Test.YtkoikjnlpifbjaaGreatZa11
import Derived.Test.YtkoikjnlpifbjaaGreatZa12
import Derived.Test.YtkoikjnlpifbjaaGreatZa9
import Derived.Test.YtkoikjnlpifbjaaGreatZa5
import Derived.Lib.SlicesCompact
import Derived.Shelf.Small.Bits
import Derived.Shelf.Strconv.Itoa0
import Derived.Shelf.Sort.Plain
import Derived.Shelf.Bits.Mul64
import Derived.Shelf.Slices.Clone
import Derived.Shelf.Slices.CompactI
import Derived.Shelf.Slices.SearchI
import Derived.Shelf.Slices.Cells
import Derived.Shelf.Slices.In.SortNone
import Derived.Shelf.SlicesE.Clone
import Derived.Test.YtkoikjnlpifbjaaGreatRows
import Derived.WalkKit
set_option linter.unusedVariables false
set_option linter.unusedSimpArgs false
set_option maxRecDepth 100000
set_option maxHeartbeats 16000000
namespace Go.Proofs.YtkoikjnlpifbjaaGreat
open Go.RowKit Go.Deep
def XP (a b : CpV) : Bool := YC a.p b.p && (decide (a.testsL = b.testsL) && (a.fuel == b.fuel && ((a.sc.alive == b.sc.alive && (a.sc.killed == b.sc.killed && a.sc.timeout == b.sc.timeout)) && decide (a.muts = b.muts))))
theorem AeU {W : World} {G : Nat} {t : TypeId} {c : CpV} (h : Row W G t c.cells) : ∀ j v, c.p.cells.toList[j]? = some v → W.cell? ((⟨G, 0, none⟩ : Addr).add j) = some v :=
 Row.from_ (cur := c.cells) h 0 (fun j v hj => by
  match j, hj with
  | 0, hj | 1, hj | 2, hj => exact hj
  | j + 3, hj => simp [PgV.cells] at hj)
theorem Aad (a b : CpV) (w : World) (ha : CpOk w a) (hb : CpOk w b) :
 Calls Tryz.prog 10 #[.agg a.cells, .agg b.cells] w fun e w' => e = .returned (.bool (XP a b)) ∧ Below w.heap.size w w' := by
 have k := Lh ha;have q := Lh hb;clear ha hb;go_enter Tryz.func10, Tryz.ntmps10
 go_wp2_with (refine Qm _ _ rfl ?_)
 refine Stop.to ?_;refine Qe rfl 38 _ rfl a.cells rfl ?_;intro G Gw Gh Gr Gb;go_wp2_with (refine Qm _ _ rfl ?_)
 refine Stop.to ?_;refine Qe rfl 38 _ rfl b.cells rfl ?_;intro J Jw Jh Jr Jb;have d := Gr.below Jb (Le Gr.lt Jh);have g := Jr;have b1 := (Below.refl w.heap.size w).trans (Gb.mono Gh);have c := b1.trans ((Jb.mono Jh).mono b1.size);clear Gr Gb Gh Jb Jh Jr b1;have j := Lh (Aaf a.p b.p Jw (k.out.go c).pok (q.out.go c).pok k.out.bl k.out.vl);go_wp2_with (first | (refine QH rfl 25 _ rfl ⟨G, 0, none⟩ rfl a.p.cells.toList _ (AeU d) Tryz.underlying25 rfl (by kernel_rfl) ?_) | (refine QH rfl 25 _ rfl ⟨J, 0, none⟩ rfl b.p.cells.toList _ (AeU g) Tryz.underlying25 rfl (by kernel_rfl) ?_))
 refine j.out.mono ?_;rintro e w1 ⟨rfl, h⟩;have o := c.trans (h.mono c.size);replace d := d.below h d.lt;replace g := g.below h g.lt;clear h c j;have c := o;clear o;generalize hs : YC a.p b.p = s;have j := Lh hs;clear hs;have ct := d.cellv (i := 3) (v := .slice a.tA a.tests.length a.tcap) rfl;have cf := d.cellv (i := 4) (v := .int .i64 a.fuel) rfl;have cm := d.cellv (i := 5) (v := .slice a.mA a.mts.length a.mcap) rfl;have cx := d.cellv (i := 6) (v := .int .i64 a.sc.alive) rfl;have cy := d.cellv (i := 7) (v := .int .i64 a.sc.killed) rfl;have cz := d.cellv (i := 8) (v := .int .i64 a.sc.timeout) rfl;have dt := g.cellv (i := 3) (v := .slice b.tA b.tests.length b.tcap) rfl;have df := g.cellv (i := 4) (v := .int .i64 b.fuel) rfl;have dm := g.cellv (i := 5) (v := .slice b.mA b.mts.length b.mcap) rfl;have dx := g.cellv (i := 6) (v := .int .i64 b.sc.alive) rfl;have dy := g.cellv (i := 7) (v := .int .i64 b.sc.killed) rfl;have dz := g.cellv (i := 8) (v := .int .i64 b.sc.timeout) rfl;have n := Lh (Eu a.tA b.tA a.tcap b.tcap _ _ a.tests b.tests w1 rfl rfl (k.out.go c).trd (q.out.go c).trd (k.out.go c).tok (q.out.go c).tok (by have := k.out.tlen; omega) (fun x hx => by have := k.out.tl x hx; omega));go_wp2_with fail
 clear ct cf cm cx cy cz dt df dm dx dy dz;refine n.out.mono ?_;rintro e w2 ⟨rfl, h⟩;have o := c.trans (h.mono c.size);replace d := d.below h d.lt;replace g := g.below h g.lt;clear h c n;have c := o;clear o;generalize ht : decide (a.tests.map IntsV.l = b.tests.map IntsV.l) = t;have n := Lh ht;clear ht;have ct := d.cellv (i := 3) (v := .slice a.tA a.tests.length a.tcap) rfl;have cf := d.cellv (i := 4) (v := .int .i64 a.fuel) rfl;have cm := d.cellv (i := 5) (v := .slice a.mA a.mts.length a.mcap) rfl;have cx := d.cellv (i := 6) (v := .int .i64 a.sc.alive) rfl;have cy := d.cellv (i := 7) (v := .int .i64 a.sc.killed) rfl;have cz := d.cellv (i := 8) (v := .int .i64 a.sc.timeout) rfl;have dt := g.cellv (i := 3) (v := .slice b.tA b.tests.length b.tcap) rfl;have df := g.cellv (i := 4) (v := .int .i64 b.fuel) rfl;have dm := g.cellv (i := 5) (v := .slice b.mA b.mts.length b.mcap) rfl;have dx := g.cellv (i := 6) (v := .int .i64 b.sc.alive) rfl;have dy := g.cellv (i := 7) (v := .int .i64 b.sc.killed) rfl;have dz := g.cellv (i := 8) (v := .int .i64 b.sc.timeout) rfl;have y := Lh (Es a.mA b.mA a.mcap b.mcap _ _ a.mts b.mts w2 rfl rfl (k.out.go c).mrd (q.out.go c).mrd (k.out.go c).mok (q.out.go c).mok (by have := k.out.mlen; omega));go_wp2_with fail
 clear ct cf cm cx cy cz dt df dm dx dy dz;refine y.out.mono ?_;rintro e w3 ⟨rfl, h⟩;have o := c.trans (h.mono c.size);replace d := d.below h d.lt;replace g := g.below h g.lt;clear h c y;have c := o;clear o;generalize hm : decide (a.mts.map MtV.m = b.mts.map MtV.m) = m;have y := Lh hm;clear hm;have ct := d.cellv (i := 3) (v := .slice a.tA a.tests.length a.tcap) rfl;have cf := d.cellv (i := 4) (v := .int .i64 a.fuel) rfl;have cm := d.cellv (i := 5) (v := .slice a.mA a.mts.length a.mcap) rfl;have cx := d.cellv (i := 6) (v := .int .i64 a.sc.alive) rfl;have cy := d.cellv (i := 7) (v := .int .i64 a.sc.killed) rfl;have cz := d.cellv (i := 8) (v := .int .i64 a.sc.timeout) rfl;have dt := g.cellv (i := 3) (v := .slice b.tA b.tests.length b.tcap) rfl;have df := g.cellv (i := 4) (v := .int .i64 b.fuel) rfl;have dm := g.cellv (i := 5) (v := .slice b.mA b.mts.length b.mcap) rfl;have dx := g.cellv (i := 6) (v := .int .i64 b.sc.alive) rfl;have dy := g.cellv (i := 7) (v := .int .i64 b.sc.killed) rfl;have dz := g.cellv (i := 8) (v := .int .i64 b.sc.timeout) rfl;cases s
 · go_wp2_with fail
   go_ret
   exact ⟨Q4 (by unfold XP; rw [j.out]; rfl), c⟩
 cases t
 · go_wp2_with fail
   go_ret
   exact ⟨Q4 (by unfold XP CpV.testsL; rw [j.out, n.out]; rfl), c⟩
 cases m
 · go_wp2_with fail
   go_ret
   exact ⟨Q4 (by unfold XP CpV.testsL CpV.muts; rw [j.out, n.out, y.out]; simp), c⟩
 generalize hf : (a.fuel == b.fuel) = f;have u := Lh hf;cases f
 · go_wp2_with fail
   go_ret
   exact ⟨Q4 (by unfold XP CpV.testsL; rw [j.out, n.out, u.out]; rfl), c⟩
 generalize h1 : (a.sc.alive == b.sc.alive) = u1;have z := Lh h1;cases u1
 · go_wp2_with fail
   go_ret
   exact ⟨Q4 (by unfold XP CpV.testsL; rw [j.out, n.out, u.out, z.out]; rfl), c⟩
 generalize h2 : (a.sc.killed == b.sc.killed) = u2;have H2 := Lh h2;cases u2
 · go_wp2_with fail
   go_ret
   exact ⟨Q4 (by unfold XP CpV.testsL; rw [j.out, n.out, u.out, z.out, H2.out]; rfl), c⟩
 generalize h3 : (a.sc.timeout == b.sc.timeout) = u3;have H3 := Lh h3;cases u3
 · go_wp2_with fail
   go_ret
   exact ⟨Q4 (by unfold XP CpV.testsL; rw [j.out, n.out, u.out, z.out, H2.out, H3.out]; rfl), c⟩
 · go_wp2_with fail
   go_ret
   exact ⟨Q4 (by unfold XP CpV.testsL CpV.muts; rw [j.out, n.out, u.out, z.out, H2.out, H3.out, y.out]; rfl), c⟩
def E7 (l : List IntsV) : Bool := decide (l.length ≤ 40 ∧ ∀ x ∈ l, x.l.length ≤ 40)
theorem Aaj {α : Type} {p : α → Prop} {l : List α} {k : Nat} {x : α} (h : ∀ y ∈ l.take k, p y) (hx : l[k]? = some x) (hp : p x) : ∀ y ∈ l.take (k + 1), p y := by
 rw [Lz, hx];intro y b;rcases L2.1 b with b | b
 · exact h y b
 · simp at b; subst b; exact hp
theorem AgL (A : Option Addr) (cap : Nat) (l : List IntsV) (w : World) (hr : Rd w A (ZN l)) :
 Calls Tryz.prog 59 #[.slice A l.length cap] w fun e w' => e = .returned (.bool (E7 l)) ∧ w = w' := by
 have Hr := Lh hr;clear hr;by_cases b : l.length ≤ 40;rotate_left
 · have d : E7 l = false := by unfold E7; rw [decide_eq_false_iff_not]; exact fun h => b h.1
   have j := Lh d;have s : (40 : Int) < (l.length : Int) := by omega
   clear d b;go_enter Tryz.func59, Tryz.ntmps59
   go_wp2
   go_ret
   exact ⟨Q4 j.out, rfl⟩
 have s : (l.length : Int) ≤ 40 := by omega
 have q := Lh b;clear b;go_enter Tryz.func59, Tryz.ntmps59
 go_wp2
 go_loop [3] (fun i => ∃ k : Nat, i = .int .i64 (k : Int) ∧ k ≤ l.length ∧ Hid (∀ x ∈ l.take k, x.l.length ≤ 40)) (fun i => l.length - (intOf i).toNat)
 case atStart => exact ⟨0, rfl, Nat.zero_le _, Lh (fun x n => by simp at n)⟩
 case round =>
  obtain ⟨k, rfl, hk, c⟩ := hrel;by_cases g : k < l.length
  · obtain ⟨x, n⟩ : ∃ x, l[k]? = some x := ⟨_, La g⟩;obtain ⟨ad, t, m⟩ := Z4 Hr.out n;have hc : w.cell? (ad.add k) = some (.slice x.addr x.l.length x.cap) := m;have v := Lh n;have y : (k : Int) < (l.length : Int) := by omega
    clear n g m;subst t;by_cases o : x.l.length ≤ 40
    · have u : (x.l.length : Int) ≤ 40 := by omega
      have z := Lh (Aaj (p := fun x : IntsV => x.l.length ≤ 40) c.out v.out o);clear o;go_wp2
      go_round
      case rel => exact ⟨k + 1, by go_num, by omega, z⟩
      case measure => simp [intOf]; omega
    · have u : (40 : Int) < (x.l.length : Int) := by omega
      have d : E7 l = false := by unfold E7; rw [decide_eq_false_iff_not]; exact fun h => o (h.2 x (Lg v.out))
      have j := Lh d;clear d o;go_wp2
      go_ret
      exact ⟨Q4 j.out, rfl⟩
  · obtain rfl : k = l.length := by omega
    have d : E7 l = true := by unfold E7; rw [decide_eq_true_eq]; exact ⟨q.out, by have := c.out; rwa [LQ] at this⟩
    have j := Lh d;clear d g hk;go_wp2
    go_ret
    exact ⟨Q4 j.out, rfl⟩
theorem Xn (a : Addr) : a.add 0 = a := by unfold Addr.add; rw [if_pos rfl]
theorem AdH (A : Option Addr) (cap : Nat) (l : List Nd) (w : World) (hr : Rd w A (l.flatMap Nd.cells)) (hl : l.length ≤ 1000) :
 Calls Tryz.prog 60 #[.slice A l.length cap] w fun e w' => e = .returned (.int .i64 (ZL l)) ∧ Below w.heap.size w w' := by
 by_cases k : l.length = 0
 · have c := Lh (Acc k);rw [k];clear hr hl k;go_enter Tryz.func60, Tryz.ntmps60
   go_wp2_with fail
   go_ret
   exact ⟨Q7 c.out.symm, Below.refl _ _⟩
 have e0 : ((l.length : Int) == 0) = false := by rw [beq_eq_false_iff_ne]; omega
 by_cases p : 200 < l.length
 · have c := Lh (Acd p);have e1 : 200 < (l.length : Int) := by omega
   clear hr hl k p;go_enter Tryz.func60, Tryz.ntmps60
   go_wp2_with fail
   go_ret
   exact ⟨Q7 c.out.symm, Below.refl _ _⟩
 have e1 : ¬ (200 < (l.length : Int)) := by omega
 have u := Lh (AdW A cap l (fun x => decide (Qs x < 0)) w (fun W => Rd W A (l.flatMap Nd.cells) ∧ Below w.heap.size w W) ⟨hr, Below.refl _ _⟩ (fun W h => h.1) (fun W h => h.2) (fun x _ W _ => AdR x W) (by omega));have He := Lh (fun W h => JR A cap l (0 : Int) W h hl);have Hr := Lh hr;have z := Lh k;have s := Lh p;have Hl := Lh hl;clear hr hl k p;obtain ⟨b, n⟩ : ∃ b, b = l.any fun x => decide (Qs x < 0) := ⟨_, rfl⟩;rw [← n] at u;go_enter Tryz.func60, Tryz.ntmps60
 go_wp2_with fail
 refine u.out.mono ?_;rintro e w1 ⟨rfl, g⟩;clear u;cases b;rotate_left
 · obtain ⟨x, i, o⟩ := List.any_eq_true.1 n.symm;have c := Lh (Ace z.out s.out i (by simpa using o));clear n i o;go_wp2_with fail
   go_ret
   exact ⟨Q7 c.out.symm, g⟩
 have h2 : ∀ x ∈ l, ¬ Qs x < 0 := fun x i o => by
  have := List.any_eq_false.1 n.symm x i;simp at this; omega
 have H2 := Lh h2;clear n h2;go_wp2_with fail
 refine (He.out w1 (Hr.out.go g)).mono ?_;rintro e q ⟨rfl, b2⟩;replace g := g.trans (b2.mono g.size);clear b2 He;by_cases m : endZ l 0 = (l.length : Int);rotate_left
 · have c := Lh (Acf z.out s.out (fun x i o => by have := H2.out x i; omega) m);have e3 : (endZ l 0 != (l.length : Int)) = true := by simpa using m
   clear m;go_wp2_with fail
   go_ret
   exact ⟨Q7 c.out.symm, g⟩
 obtain ⟨t, y⟩ := Whole.of m;have e3 : ((l.length : Int) != (l.length : Int)) = false := by simp
 have c := Lh (VF s.out (fun x i o => by have := H2.out x i; omega) y);have v : Hid (Calls Tryz.prog 103 #[.slice A l.length cap, .int .i64 0] q fun e w' => e = .returned (.int .i64 (XS t)) ∧ Below q.heap.size q w') := Afx A cap l Hl.out t.size t 0 (Nat.le_refl _) y.hat q (Hr.out.go g);rw [m];clear m y;obtain ⟨d, hd⟩ : ∃ d, d = XS t := ⟨_, rfl⟩;rw [← hd] at v c;clear hd;go_wp2_with fail
 refine v.out.mono ?_;rintro e w3 ⟨rfl, b3⟩;replace g := g.trans (b3.mono g.size);clear b3 v;by_cases h4 : 30 < d
 · have j : Hid (ZL l = 13) := by have := c.out; rw [if_pos h4] at this; exact this
   clear c;go_wp2_with fail
   go_ret
   exact ⟨Q7 j.out.symm, g⟩
 · have j : Hid (ZL l = 0) := by have := c.out; rw [if_neg h4] at this; exact this
   clear c;go_wp2_with fail
   go_ret
   exact ⟨Q7 j.out.symm, g⟩
theorem YK (p : PgV) (hbl : p.body.length ≤ 1000) (w : World) (hok : p.ok w) :
 Calls Tryz.prog 24 #[.agg p.cells] w fun e w' => e = .returned (.int .i64 (QV p)) ∧ Below w.heap.size w w' := by
 have s := Lh hbl;have u := Lh hok;clear hbl hok;go_enter Tryz.func24, Tryz.ntmps24
 go_wp2_with (refine Qm _ _ rfl ?_)
 refine Stop.to ?_;refine Qe rfl 25 _ rfl p.cells rfl ?_;intro G Gw Gh j Gb;have c := (Below.refl w.heap.size w).trans (Gb.mono Gh);have b := Lh (u.out.go c);have c2 := j.cellv (i := 2) (v := .slice p.ba p.body.length p.bcap) rfl;have m := Lh (AdH p.ba p.bcap p.body Gw b.out.brd s.out);clear Gb Gh u;go_wp2_with fail
 refine m.out.mono ?_;rintro e w1 ⟨rfl, g⟩;replace j := j.below g j.lt;replace c := c.trans (g.mono c.size);replace b := Lh (b.out.go g);clear g m c2;obtain ⟨a, o⟩ : ∃ a, a = ZL p.body := ⟨_, rfl⟩;rw [← o];by_cases n : a = 0;rotate_left
 · have l : Hid (QV p = a) := by show _ = _; rw [Acg (by rw [← o]; exact n), ← o]
   have e0 : (a != 0) = true := by simpa using n
   clear o n;go_wp2_with fail
   go_ret
   exact ⟨Q7 l.out.symm, c⟩
 subst n;have q := Lh o.symm;have m := Lh (Adv p w1 b.out);clear o;go_wp2_with (refine wpList_load_row rfl 25 _ rfl G rfl 25 p.cells (0, 0) _ j Tryz.underlying25 rfl (by kernel_rfl) ?_)
 refine m.out.mono ?_;rintro e w2 ⟨rfl, g⟩;replace j := j.below g j.lt;replace c := c.trans (g.mono c.size);replace b := Lh (b.out.go g);clear g m;obtain ⟨v, z⟩ : ∃ v, v = Jl p.params p.V := ⟨_, rfl⟩;rw [← z];by_cases n : v = 0;rotate_left
 · have ae : v = 14 := by rcases Yf p.params p.V with h | h <;> omega
   have l : Hid (QV p = 14) := Ach q.out (by rw [← z]; exact n);subst ae;clear z n;go_wp2_with fail
   go_ret
   exact ⟨Q7 l.out.symm, c⟩
 subst n;have Hv := Lh z.symm;obtain ⟨ai, ag, t, ht, ah⟩ := Aau q.out;have x := Lh ht;have m : Hid (∀ W, p.ok W → Calls Tryz.prog 62 #[.agg p.cells, .int .i64 0] W fun e w' => e = .returned (.int .i64 (ofT p.V t)) ∧ Below W.heap.size W w') := fun W h => AcI p s.out t 0 x.out.hat W h
 obtain ⟨ad, af, hc⟩ := Js b.out.brd ht.hat.root;have c2 := j.cellv (i := 2) (v := .slice p.ba p.body.length p.bcap) rfl;have c0 := hc 0 _ rfl;have aj : (0 : Int) < (p.body.length : Int) := by have := ht.pos; omega
 simp only [Nat.zero_mul, Xn] at c0;rw [af] at c2;have ab : Hid (KT p.params p.V) := by rcases Yf p.params p.V with h | h; exact h.2; have := Hv.out; omega
 clear z ai ag ah ht hc;by_cases d : t.root.tag = 20;rotate_left
 · have l : Hid (QV p = 15) := VG q.out Hv.out (Kj x.out.hat (fun h => d h.1));have ac : (t.root.tag != 20) = true := by simpa using d
   clear d;go_wp2_with fail
   go_ret
   exact ⟨Q7 l.out.symm, c⟩
 have ac : (t.root.tag != 20) = false := by simp [d]
 have aa := Lh d;clear d;go_wp2_with (refine Kf rfl 25 _ rfl G rfl 25 p.cells (0, 0) _ j Tryz.underlying25 rfl (by kernel_rfl) ?_)
 refine (m.out w2 b.out).mono ?_;rintro e w3 ⟨rfl, g⟩;replace c := c.trans (g.mono c.size);clear g m c0 c2;obtain ⟨k, y⟩ : ∃ k, k = ofT p.V t := ⟨_, rfl⟩;rw [← y];by_cases h2 : k = 2
 · subst h2;have l : Hid (QV p = 0) := Aci q.out Hv.out ⟨x.out.hat, x.out.size, ab.out, aa.out, y.symm⟩;clear y;go_wp2_with fail
   go_ret
   exact ⟨Q7 l.out.symm, c⟩
 · have l : Hid (QV p = 15) := VG q.out Hv.out (Kj x.out.hat (fun h => h2 (by rw [y]; exact h.2)));have e2 : (k != 2) = true := by simpa using h2
   clear y h2;go_wp2_with fail
   go_ret
   exact ⟨Q7 l.out.symm, c⟩
def XB (l : List Nd) : Int → List Int → Int
 | a, [] => a
 | a, i :: π => if i < 0 ∨ ((kidsZ l a).length : Int) ≤ i then -1 else XB l (((kidsZ l a)[i.toNat]?).getD 0) π
def KJ (l : List Nd) (π : List Int) : Int := if endZ l 0 = (l.length : Int) then XB l 0 π else -1
theorem Aa6 {l : List Nd} {a i : Int} {π : List Int} {k : Nat} (hi : π[k]? = some i) (h : i < 0 ∨ ((kidsZ l a).length : Int) ≤ i) : XB l a (π.drop k) = -1 := by
 have c := (Lb.1 hi).1;have b := (Lb.1 hi).2;rw [LH c, b, XB, if_pos h]
theorem AhM {l : List Nd} {a b : Int} {π : List Int} {k j : Nat} (hi : π[k]? = some (j : Int)) (h : (kidsZ l a)[j]? = some b) : XB l a (π.drop k) = XB l b (π.drop (k + 1)) := by
 have d := (Lb.1 hi).1;have c := (Lb.1 hi).2;have e := (Lb.1 h).1;rw [LH d, c, XB, if_neg (by omega), Ls, h];rfl
theorem EV {l : List Nd} : ∀ (π : List Int) (q : Nat) (t : Tr), At l q t → XB l (q : Int) π = match ZG π q t with | some (r, _) => (r : Int) | none => -1
 | [], q, t, _ => by rw [XB, ZG]
 | i :: π, q, .node x ks, h => by
  have hk := h.kidsZ
  have hkl : (kidsZ l (q : Int)).length = ks.length := by rw [hk, Lu, JP]; rfl
  rw [XB, ZG]
  by_cases h0 : i < 0
  · rw [if_pos (Or.inl h0), if_pos h0]
  rw [if_neg h0]
  by_cases h1 : ((kidsZ l (q : Int)).length : Int) ≤ i
  · rw [if_pos (Or.inr h1)]
    have h2 : ks[i.toNat]? = none := Nh (by omega)
    rw [h2]
    split
    · rename_i h3; split at h3 <;> simp_all
    · rfl
  rw [if_neg (by omega)]
  obtain ⟨k, hk2⟩ : ∃ k, ks[i.toNat]? = some k := ⟨_, La (by omega)⟩
  obtain ⟨r, hr⟩ := AbL (p := q + 1) hk2
  have hr2 : (kidsZ l (q : Int))[i.toNat]? = some (r : Int) := by rw [hk, L4, show (Tr.node x ks).kids = ks from rfl, hr]; rfl
  rw [hr2, LP, hr, hk2]
  exact EV π r k (h.kids.spot i.toNat r k hr hk2).1
end Go.Proofs.YtkoikjnlpifbjaaGreat
namespace Go.Proofs.YtkoikjnlpifbjaaGreat
open Go.RowKit
theorem Ae4 (a : Int) : ∀ l : List Int, (E8 a l).length ≤ l.length + 1
 | [] => by simp [E8]
 | b :: l => by
  rw [E8]
  split
  · simp
  · split
    · simp
    · have := Ae4 a l; simp; omega
theorem EO : ∀ l : List Int, (KR l).length ≤ l.length
 | [] => by simp [KR]
 | a :: l => by have := Ae4 a (KR l); have := EO l; rw [KR]; simp; omega
theorem Ey : ∀ {l : List Int}, l.Pairwise (· < ·) → JO l
 | [], _ => trivial
 | [_], _ => trivial
 | a :: b :: l, h => by
  rw [LY] at h
  exact ⟨h.1 b (by simp), Ey h.2⟩
theorem Abh {s : List Int} (hs : s.Pairwise (· ≤ ·)) : JO (Lib.compact s) ∧ ∀ x, x ∈ Lib.compact s ↔ x ∈ s := by
 have c : ∀ j, j < s.length → ∃ x, s[j]? = some x ∧ s.toArray[j]! = x := fun j m => ⟨s[j], La m, by simp [m]⟩
 have l : ∀ i j x y, i ≤ j → s[i]? = some x → s[j]? = some y → x ≤ y := fun i j x y t q g => by
  rcases Nat.lt_or_eq_of_le t with h | h
  · obtain ⟨h1, rfl⟩ := Lb.1 q;obtain ⟨h2, rfl⟩ := Lb.1 g;exact Np.1 hs i j h1 h2 h
  · subst h; rw [q] at g; injection g with g; omega
 constructor
 · refine Ey ?_;unfold Lib.compact Lib.compactUpTo;rw [N9, List.pairwise_filter];rw [Np];intro i j hi m t ae o;simp only [List.getElem_range] at *;rw [List.length_range] at hi m;unfold Lib.keeps at o;rw [decide_eq_true_eq] at o;obtain ⟨x, q, ab⟩ := c i hi;obtain ⟨y, g, d⟩ := c j m;obtain ⟨z, v, p⟩ := c (j - 1) (by omega);rw [ab, d];rw [d, p] at o;have h1 := l i (j - 1) x z (by omega) q v;have h2 := l (j - 1) j z y (by omega) v g;rcases o with h | h <;> omega
 · intro x;unfold Lib.compact Lib.compactUpTo;rw [LO];constructor
   · rintro ⟨j, m, rfl⟩;have aa := Nx.1 (Ng.1 m).1;obtain ⟨y, g, d⟩ := c j aa;rw [d]; exact Lg g
   · intro q;obtain ⟨j, m, b⟩ := Nm q
     have : ∀ (n j : Nat), j ≤ n → s[j]? = some x → ∃ a : Nat, a ∈ (List.range s.length).filter (Lib.keeps s.toArray) ∧ s.toArray[a]! = x := by
      intro n
      induction n with
      | zero =>
       intro j w b;obtain rfl : j = 0 := by omega
       have k := (Lb.1 b).1;obtain ⟨y, g, d⟩ := c 0 k;rw [g] at b; injection b with b;exact ⟨0, Ng.2 ⟨Nx.2 k, by simp [Lib.keeps]⟩, by rw [d, b]⟩
      | succ n ih =>
       intro j ad b;have k := (Lb.1 b).1;obtain ⟨y, g, d⟩ := c j k;rw [g] at b; injection b with b;subst b;by_cases u : Lib.keeps s.toArray j = true
       · exact ⟨j, Ng.2 ⟨Nx.2 k, u⟩, d⟩
       · unfold Lib.keeps at u;rw [decide_eq_true_eq] at u;have w : j ≠ 0 := fun e => u (.inl e)
         obtain ⟨z, v, p⟩ := c (j - 1) (by omega)
         have ac : z = y := by
          rcases Decidable.em (s.toArray[j]! = s.toArray[j - 1]!) with e | e
          · rw [d, p] at e; exact e.symm
          · exact absurd (.inr e) u
         exact ih (j - 1) (by omega) (by rw [v, ac])
     exact this j j (Nat.le_refl _) (by rw [La m, b])
theorem Af9 (l : List Int) : Lib.compact (l.mergeSort fun x y => decide (x ≤ y)) = KR l := by
 have g : (l.mergeSort fun x y => decide (x ≤ y)).Pairwise (· ≤ ·) := by
  have := List.pairwise_mergeSort (le := fun x y : Int => decide (x ≤ y)) (fun a b c => by simp; omega) (fun a b => by simp; omega) l;exact this.imp (by simp)
 obtain ⟨d, e⟩ := Abh g;refine UN d (KS l) fun x => ?_
 rw [e, Yv];exact (List.mergeSort_perm l _).mem_iff
end Go.Proofs.YtkoikjnlpifbjaaGreat
namespace Go.Proofs.YtkoikjnlpifbjaaGreat
open Go.Shelf
def AcL : Go.Shelf.Ren := ⟨fun | 189 => 229 | 125 => 234 | 257 => 233 | 128 => 245 | 129 => 246 | 294 => 236 | 295 => 237 | 296 => 238 | 297 => 239 | 298 => 240 | 299 => 241 | 216 => 242 | 300 => 243 | 301 => 244 | 328 => 247 | 329 => 248 | 330 => 249 | 331 => 250 | 332 => 251 | 215 => 126 | 343 => 252 | n => n, fun | 28 => 22 | 3 => 3 | 46 => 251 | 0 => 0 | 51 => 77 | 53 => 207 | 4 => 4 | 183 => 317 | 182 => 316 | 131 => 188 | 5 => 5 | 9 => 9 | 218 => 324 | 222 => 161 | 228 => 329 | 229 => 224 | n => n, fun | n => n⟩
theorem Aiv : Go.Proofs.Lays.n189 Tryz.prog AcL := {
 mixed := by kernel_rfl
 f125 := Tryz.func234.trans (congrArg some (by kernel_rfl))
 f128 := Tryz.func245.trans (congrArg some (by kernel_rfl))
 f129 := Tryz.func246.trans (congrArg some (by kernel_rfl))
 f189 := Tryz.func229.trans (congrArg some (by kernel_rfl))
 f215 := Tryz.func126.trans (congrArg some (by kernel_rfl))
 f216 := Tryz.func242.trans (congrArg some (by kernel_rfl))
 f257 := Tryz.func233.trans (congrArg some (by kernel_rfl))
 f294 := Tryz.func236.trans (congrArg some (by kernel_rfl))
 f295 := Tryz.func237.trans (congrArg some (by kernel_rfl))
 f296 := Tryz.func238.trans (congrArg some (by kernel_rfl))
 f297 := Tryz.func239.trans (congrArg some (by kernel_rfl))
 f298 := Tryz.func240.trans (congrArg some (by kernel_rfl))
 f299 := Tryz.func241.trans (congrArg some (by kernel_rfl))
 f300 := Tryz.func243.trans (congrArg some (by kernel_rfl))
 f301 := Tryz.func244.trans (congrArg some (by kernel_rfl))
 f328 := Tryz.func247.trans (congrArg some (by kernel_rfl))
 f329 := Tryz.func248.trans (congrArg some (by kernel_rfl))
 f330 := Tryz.func249.trans (congrArg some (by kernel_rfl))
 f331 := Tryz.func250.trans (congrArg some (by kernel_rfl))
 f332 := Tryz.func251.trans (congrArg some (by kernel_rfl))
 f343 := Tryz.func252.trans (congrArg some (by kernel_rfl))
 t0 := Tryz.underlying0
 a0 := Tryz.isAgg0
 z0 := Tryz.sizeOf0
 v0 := Tryz.zeroValue0
 t3 := Tryz.underlying3
 a3 := Tryz.isAgg3
 z3 := Tryz.sizeOf3
 v3 := Tryz.zeroValue3
 t4 := Tryz.underlying4
 a4 := Tryz.isAgg4
 z4 := Tryz.sizeOf4
 v4 := Tryz.zeroValue4
 t5 := Tryz.underlying5
 a5 := Tryz.isAgg5
 z5 := Tryz.sizeOf5
 v5 := Tryz.zeroValue5
 t9 := Tryz.underlying9
 a9 := Tryz.isAgg9
 z9 := Tryz.sizeOf9
 v9 := Tryz.zeroValue9
 t28 := Tryz.underlying22
 a28 := Tryz.isAgg22
 z28 := Tryz.sizeOf22
 v28 := Tryz.zeroValue22
 t46 := Tryz.underlying251
 a46 := Tryz.isAgg251
 z46 := Tryz.sizeOf251
 v46 := Tryz.zeroValue251
 t51 := Tryz.underlying77
 a51 := Tryz.isAgg77
 z51 := Tryz.sizeOf77
 v51 := Tryz.zeroValue77
 t53 := Tryz.underlying207
 a53 := Tryz.isAgg207
 z53 := Tryz.sizeOf207
 v53 := Tryz.zeroValue207
 t131 := Tryz.underlying188
 a131 := Tryz.isAgg188
 z131 := Tryz.sizeOf188
 v131 := Tryz.zeroValue188
 t182 := Tryz.underlying316
 a182 := Tryz.isAgg316
 z182 := Tryz.sizeOf316
 v182 := Tryz.zeroValue316
 t183 := Tryz.underlying317
 a183 := Tryz.isAgg317
 z183 := Tryz.sizeOf317
 v183 := Tryz.zeroValue317
 t218 := Tryz.underlying324
 a218 := Tryz.isAgg324
 z218 := Tryz.sizeOf324
 v218 := Tryz.zeroValue324
 t222 := Tryz.underlying161
 a222 := Tryz.isAgg161
 z222 := Tryz.sizeOf161
 v222 := Tryz.zeroValue161
 t228 := Tryz.underlying329
 a228 := Tryz.isAgg329
 z228 := Tryz.sizeOf329
 v228 := Tryz.zeroValue329
 t229 := Tryz.underlying224
 a229 := Tryz.isAgg224
 z229 := Tryz.sizeOf224
 v229 := Tryz.zeroValue224 }
open Go.Sort Go.RowKit in
theorem slices_Sort_int (blk off cap : Nat) (zs : List Int) (w : World) (hH : Holds (Value.int .i64) w blk off zs.toArray) (hblk : blk < w.heap.size) (hsz : zs.length < 4611686018427387904) :
 Calls Tryz.prog 229 #[.slice (some ⟨blk, off, none⟩) zs.length cap] w fun e w' =>
  e = .returned (.tuple #[]) ∧ ∃ n os, w' = grow (putRow (Value.int .i64) (Sort.ahead w n) blk off (zs.mergeSort fun x y => decide (x ≤ y)).toArray) os := Any.slices_Sort_int Aiv blk off cap zs w hH hblk hsz
def E9 : Go.Shelf.Ren := ⟨fun | 20 => 230 | n => n, fun | 22 => 22 | 3 => 3 | 4 => 4 | 0 => 0 | n => n, fun | n => n⟩
theorem AfL : Go.Proofs.Lays2.n20 Tryz.prog E9 := {
 mixed := by kernel_rfl
 f20 := Tryz.func230.trans (congrArg some (by kernel_rfl))
 t0 := Tryz.underlying0
 a0 := Tryz.isAgg0
 z0 := Tryz.sizeOf0
 v0 := Tryz.zeroValue0
 t3 := Tryz.underlying3
 a3 := Tryz.isAgg3
 z3 := Tryz.sizeOf3
 v3 := Tryz.zeroValue3
 t4 := Tryz.underlying4
 a4 := Tryz.isAgg4
 z4 := Tryz.sizeOf4
 v4 := Tryz.zeroValue4
 t22 := Tryz.underlying22
 a22 := Tryz.isAgg22
 z22 := Tryz.sizeOf22
 v22 := Tryz.zeroValue22
 i3 := by kernel_rfl }
open Go.RowKit Go.Lib Go.Sort in
theorem slices_Compact_int (blk off cap : Nat) (zs : List Int) (w : World) (hH : Holds (Value.int .i64) w blk off zs.toArray) (hsz : zs.length ≤ 9223372036854775807) (hcap : zs.length ≤ cap) :
 Calls Tryz.prog 230 #[.slice (some ⟨blk, off, none⟩) zs.length cap] w fun e w' => e = .returned (.slice (some ⟨blk, off, none⟩) (Lib.compact zs).length cap) ∧ ∃ q, w' = putRow (Value.int .i64) (Sort.ahead w q) blk off (Lib.compact zs ++ List.replicate (zs.length - (Lib.compact zs).length) 0).toArray := Any.slices_Compact_int AfL blk off cap zs w hH hsz hcap
end Go.Proofs.YtkoikjnlpifbjaaGreat
