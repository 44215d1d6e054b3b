/- Lemmas for VerdictTellsP. -/
import Derived.Test.YtdcmppdhdcjpfaaGreatZz1
import Derived.Test.YtdcmppdhdcjpfaaGreatZz12
import Derived.Test.YtdcmppdhdcjpfaaGreatZz13
import Derived.Test.YtdcmppdhdcjpfaaGreatZz10
import Derived.Test.YtdcmppdhdcjpfaaGreatZz3
import Derived.Lib.SlicesCompact
import Derived.Shelf.Small.Bits
import Derived.Shelf.Strconv.Itoa0
import Derived.Shelf.Sort.Plain
import Derived.Shelf.Bits.Mul64
import Derived.Shelf.Slices.Clone
import Derived.Shelf.Slices.CompactI
import Derived.Shelf.Slices.SearchI
import Derived.Shelf.Slices.Cells
import Derived.Shelf.Slices.In.SortNone
import Derived.Shelf.SlicesE.Clone
import Derived.Test.YtdcmppdhdcjpfaaGreatRows
import Derived.WalkKit
set_option linter.unusedVariables false
set_option linter.unusedSimpArgs false
set_option maxRecDepth 100000
set_option maxHeartbeats 16000000
namespace Go.Proofs.YtdcmppdhdcjpfaaGreat
open Go.RowKit Go.Deep
theorem AbP (A : Option Addr) (cap : Nat) (l : List Nd) (hl : l.length ≤ 1000) : ∀ (n : Nat) (t : Tr) (q : Nat), t.size ≤ n → At l q t → ∀ w, Rd w A (l.flatMap Nd.cells) →
 Calls Tryz.prog 211 #[.slice A l.length cap, .int .i64 (q : Int)] w fun e w' => e = .returned (.int .i64 (Ku t)) ∧ Below w.heap.size w w' := by
 intro n
 induction n with
 | zero => intro t q hn; have := t.size_eq; omega
 | succ n ih =>
 intro t q hn g w hr;have He := Lh (Kj A cap l (q : Int) w hr hl);rw [g.endZ] at He;have ad := Lh (fun W h => Yp A cap l (q : Int) W h hl);have aq : q + t.size ≤ l.length := g.le;have ab : kidsZ l (q : Int) = QU (Q5 (q + 1) t.kids) := g.kidsZ;have hN : (kidsZ l (q : Int)).length = t.kids.length := by rw [ab, XK, ZP]
 have ar : t.kids.length ≤ t.size := by have h1 := Ye t.kids; have h2 := t.size_eq; omega
 have ac : Hid (∀ (j : Nat) (x : Int), (kidsZ l (q : Int))[j]? = some x → ∃ (k : Tr) (r : Nat), x = (r : Int) ∧ depK (t.kids.take (j + 1)) = max (depK (t.kids.take j)) (Ku k) ∧ Ku k ≤ 1000 ∧ ∀ W, Rd W A (l.flatMap Nd.cells) → Calls Tryz.prog 211 #[.slice A l.length cap, .int .i64 (r : Int)] W fun e w' => e = .returned (.int .i64 (Ku k)) ∧ Below W.heap.size W w') := fun j x y => by
  rw [ab] at y;unfold QU at y;rw [LA] at y;obtain ⟨r, hr, rfl⟩ := N4.1 y;obtain ⟨k, hk⟩ : ∃ k, t.kids[j]? = some k := ⟨_, La (by have := (Lb.1 hr).1; rw [ZP] at this; exact this)⟩;have af := (g.kids.spot _ _ _ hr hk).1;have h4 := XI (Lf hk);have h5 := t.size_eq;exact ⟨k, r, rfl, by rw [L6, hk]; exact UM k _, by have := Vy k; have := af.le; omega, ih k r (by omega) af⟩
 have ao := Vy t;have ag : Ku t = depK t.kids + 1 := by cases t; rfl
 have ay := Vx t.kids;have Hr := Lh hr;obtain ⟨N, z⟩ : ∃ N, N = t.kids.length := ⟨_, rfl⟩;rw [← z] at hN;have aw : (N : Int) ≤ 1000 := by omega
 obtain ⟨Q, hQ⟩ : ∃ Q, Q = q + t.size := ⟨_, rfl⟩;rw [← hQ] at He;have ax : ¬ ((Q : Int) < 0) := by omega
 have ak := Lh ag;have HN := Lh hN;have aj := Lh z;have az : depK t.kids ≤ 1000 := by omega
 clear ih hl hr g hn hQ aq ab hN z ar ao ag;go_enter Tryz.func211, Tryz.ntmps211
 go_wp2_with fail
 refine He.out.mono ?_;rintro e w1 ⟨rfl, b1⟩;clear He;go_wp2_with fail
 refine (ad.out w1 (Hr.out.go b1)).mono ?_;rintro e w2 ⟨v, rfl, s, b2⟩;obtain ⟨KA, kc, rfl, ae, av, an, am⟩ := Xp s;rw [HN.out];have b3 := b1.trans (b2.mono b1.size);obtain ⟨S, c⟩ : ∃ S, S = (fun W => Rd W A (l.flatMap Nd.cells) ∧ Rd W KA (Qi (kidsZ l (q : Int))) ∧ Below w.heap.size w W) := ⟨_, rfl⟩;have au : St S := by rw [c]; infer_instance
 have T0 : Hid (∀ W, S W → Rd W A (l.flatMap Nd.cells)) := by show ∀ W, _; rw [c]; exact fun W h => h.1
 have T1 : Hid (∀ W, S W → Rd W KA (Qi (kidsZ l (q : Int)))) := by show ∀ W, _; rw [c]; exact fun W h => h.2.1
 have T2 : Hid (∀ W, S W → Below w.heap.size w W) := by show ∀ W, _; rw [c]; exact fun W h => h.2.2
 have p : S w2 := by rw [c]; exact ⟨Hr.out.go b3, ae, b3⟩
 clear c b1 b2 b3 s ae am an ad Hr;go_wp2_with fail
 go_loopw [5, 7] (fun m i wr => ∃ (k : Nat) (d : Int), i = .int .i64 (k : Int) ∧ m = .int .i64 d ∧ k ≤ N ∧ Hid (d = depK (t.kids.take k)) ∧ S wr) (fun _ i _ => N - (intOf i).toNat)
 case atStart => exact ⟨0, 0, by simp, by simp, Nat.zero_le _, Lh (by simp [depK]), p⟩
 case round =>
  clear p;obtain ⟨k, d, rfl, rfl, a1, Hd, p⟩ := hrel;by_cases ai : k < N;rotate_left
  · have a0 : ¬ ((k : Int) < (N : Int)) := by omega
    obtain rfl : k = N := by omega
    have hd : d = depK t.kids := by have := Hd.out; rw [aj.out, LO] at this; exact this
    subst hd;clear ai Hd;go_wp2_with fail
    go_ret
    exact ⟨Ze ak.out.symm, T2.out _ p⟩
  obtain ⟨x, y⟩ : ∃ x, (kidsZ l (q : Int))[k]? = some x := ⟨_, La (by have := HN.out; omega)⟩;obtain ⟨u, r, rfl, aa, ap, o⟩ := ac.out k x y;obtain ⟨ka, ah, hc⟩ := QR (T1.out _ p) y;subst ah;have b := Lh (o wr (T0.out _ p));obtain ⟨e, he⟩ : ∃ e, e = Ku u := ⟨_, rfl⟩;rw [← he] at b aa;have al : Hid ((if d < e then e else d) = depK (t.kids.take (k + 1))) := by show _ = _; rw [aa, ← Hd.out]; split <;> omega
  have ah : (k : Int) < (N : Int) := by omega
  clear y ai aa ap o he Hd;go_wp2_with fail
  refine b.out.mono ?_;rintro e' w3 ⟨rfl, b3⟩;replace p := au.go p b3;clear b3 hc b;go_wp2_with fail
  refine ⟨⟨k + 1, _, by simp, rfl, by omega, (by first | exact al | (show _ = _; rw [← al.out]; simp only [Int.max_def]; split <;> split <;> omega)), p⟩, ?_⟩;simp only [intOf]; omega
theorem AdT (A : Option Addr) (cap : Nat) (l : List Nd) (w : World) (hr : Rd w A (l.flatMap Nd.cells)) (hl : l.length ≤ 1000) :
 Calls Tryz.prog 106 #[.slice A l.length cap] w fun e w' => e = .returned (.int .i64 (Zv l)) ∧ Below w.heap.size w w' := by
 by_cases k : l.length = 0
 · have c := Lh (VS k);rw [k];clear hr hl k;go_enter Tryz.func106, Tryz.ntmps106
   go_wp2_with fail
   go_ret
   exact ⟨Ze c.out.symm, Below.refl _ _⟩
 have e0 : ((l.length : Int) == 0) = false := by rw [beq_eq_false_iff_ne]; omega
 by_cases p : 200 < l.length
 · have c := Lh (VT p);have e1 : 200 < (l.length : Int) := by omega
   clear hr hl k p;go_enter Tryz.func106, Tryz.ntmps106
   go_wp2_with fail
   go_ret
   exact ⟨Ze c.out.symm, Below.refl _ _⟩
 have e1 : ¬ (200 < (l.length : Int)) := by omega
 have s := Lh (Aeb A cap l (fun x => decide (Qq x < 0)) w (fun W => Rd W A (l.flatMap Nd.cells) ∧ Below w.heap.size w W) ⟨hr, Below.refl _ _⟩ (fun W h => h.1) (fun W h => h.2) (fun x _ W _ => Ad6 x W) (by omega));have He := Lh (fun W h => JW A cap l (0 : Int) W h hl);have Hr := Lh hr;have y := Lh k;have r := Lh p;have Hl := Lh hl;clear hr hl k p;obtain ⟨b, n⟩ : ∃ b, b = l.any fun x => decide (Qq x < 0) := ⟨_, rfl⟩;rw [← n] at s;go_enter Tryz.func106, Tryz.ntmps106
 go_wp2_with fail
 refine s.out.mono ?_;rintro e w1 ⟨rfl, g⟩;clear s;cases b;rotate_left
 · obtain ⟨x, i, o⟩ := List.any_eq_true.1 n.symm;have c := Lh (VU y.out r.out i (by simpa using o));clear n i o;go_wp2_with fail
   go_ret
   exact ⟨Ze c.out.symm, g⟩
 have h2 : ∀ x ∈ l, ¬ Qq x < 0 := fun x i o => by
  have := List.any_eq_false.1 n.symm x i;simp at this; omega
 have z := Lh h2;clear n h2;go_wp2_with fail
 refine (He.out w1 (Hr.out.go g)).mono ?_;rintro e q ⟨rfl, b2⟩;replace g := g.trans (b2.mono g.size);clear b2 He;by_cases m : endZ l 0 = (l.length : Int);rotate_left
 · have c := Lh (VV y.out r.out (fun x i o => by have := z.out x i; omega) m);have e3 : (endZ l 0 != (l.length : Int)) = true := by simpa using m
   clear m;go_wp2_with fail
   go_ret
   exact ⟨Ze c.out.symm, g⟩
 obtain ⟨t, v⟩ := Whole.of m;have e3 : ((l.length : Int) != (l.length : Int)) = false := by simp
 have c := Lh (Y6 r.out (fun x i o => by have := z.out x i; omega) v);have u : Hid (Calls Tryz.prog 177 #[.slice A l.length cap, .int .i64 0] q fun e w' => e = .returned (.int .i64 (Ku t)) ∧ Below q.heap.size q w') := AfI A cap l Hl.out t.size t 0 (Nat.le_refl _) v.hat q (Hr.out.go g);rw [m];clear m v;obtain ⟨d, hd⟩ : ∃ d, d = Ku t := ⟨_, rfl⟩;rw [← hd] at u c;clear hd;go_wp2_with fail
 refine u.out.mono ?_;rintro e w3 ⟨rfl, b3⟩;replace g := g.trans (b3.mono g.size);clear b3 u;by_cases h4 : 30 < d
 · have j : Hid (Zv l = 13) := by have := c.out; rw [if_pos h4] at this; exact this
   clear c;go_wp2_with fail
   go_ret
   exact ⟨Ze j.out.symm, g⟩
 · have j : Hid (Zv l = 0) := by have := c.out; rw [if_neg h4] at this; exact this
   clear c;go_wp2_with fail
   go_ret
   exact ⟨Ze j.out.symm, g⟩
theorem Aax (A : Option Addr) (cap : Nat) (l : List Nd) (w : World) (hr : Rd w A (l.flatMap Nd.cells)) (hl : l.length ≤ 1000) :
 Calls Tryz.prog 137 #[.slice A l.length cap] w fun e w' => e = .returned (.int .i64 (Zv l)) ∧ Below w.heap.size w w' := by
 by_cases q : l.length = 0
 · have c := Lh (VS q);rw [q];clear hr hl q;go_enter Tryz.func137, Tryz.ntmps137
   go_wp2_with fail
   go_ret
   exact ⟨Ze c.out.symm, Below.refl _ _⟩
 have e0 : ((l.length : Int) == 0) = false := by rw [beq_eq_false_iff_ne]; omega
 by_cases h1 : 200 < l.length
 · have c := Lh (VT h1);have e1 : 200 < (l.length : Int) := by omega
   clear hr hl q h1;go_enter Tryz.func137, Tryz.ntmps137
   go_wp2_with fail
   go_ret
   exact ⟨Ze c.out.symm, Below.refl _ _⟩
 have e1 : ¬ (200 < (l.length : Int)) := by omega
 have af : (l.length : Int) ≤ 1000 := by omega
 have He := Lh (fun W h => Kj A cap l (0 : Int) W h hl);have H0 := Lh q;have H1 := Lh h1;have Hl := Lh hl;obtain ⟨S, g⟩ : ∃ S, S = (fun W => Rd W A (l.flatMap Nd.cells) ∧ Below w.heap.size w W) := ⟨_, rfl⟩;have p : St S := by rw [g]; infer_instance
 have T0 : Hid (∀ W, S W → Rd W A (l.flatMap Nd.cells)) := by show ∀ W, _; rw [g]; exact fun W h => h.1
 have T1 : Hid (∀ W, S W → Below w.heap.size w W) := by show ∀ W, _; rw [g]; exact fun W h => h.2
 have b : S w := by rw [g]; exact ⟨hr, Below.refl _ _⟩
 clear g hr hl q h1;go_enter Tryz.func137, Tryz.ntmps137
 go_wp2_with fail
 go_loopw [3] (fun i wr => ∃ k : Nat, i = .int .i64 (k : Int) ∧ k ≤ l.length ∧ Hid (∀ y ∈ l.take k, 0 ≤ Qq y) ∧ S wr) (fun i _ => l.length - (intOf i).toNat)
 case atStart => exact ⟨0, by simp, Nat.zero_le _, Lh (fun y h => by simp at h), b⟩
 case round =>
  clear b;obtain ⟨k, rfl, ab, s, b⟩ := hrel;by_cases n : k < l.length
  · obtain ⟨x, o⟩ : ∃ x, l[k]? = some x := ⟨_, La n⟩;obtain ⟨ad, aa, hc⟩ := Z9 (T0.out _ b) o;subst aa;have Hc := Lh hc;have Hx := Lh o;have ae : (k : Int) < (l.length : Int) := by omega
    have Ha := Lh (X4 x wr);clear hc o n;go_wp2_with (refine QE rfl 85 _ rfl (ad.add (k * 2)) rfl x.cells _ Hc.out Tryz.underlying85 rfl (by kernel_rfl) ?_)
    refine Ha.out.mono ?_;rintro e z ⟨rfl, u⟩;replace b := p.go b u;clear u Ha Hc;by_cases v : Qq x < 0
    · have c := Lh (VU H0.out H1.out (Lf Hx.out) v);clear s;go_wp2_with fail
      go_ret
      exact ⟨Ze c.out.symm, T1.out _ b⟩
    · have Hn : Hid (∀ y ∈ l.take (k + 1), 0 ≤ Qq y) := fun y j => by
       rw [L6, Lz] at j;rcases j with j | j
       · exact s.out y j
       · rw [Hx.out] at j; simp at j; rw [j]; omega
      clear s;go_wp2_with fail
      refine ⟨⟨k + 1, by simp, by omega, Hn, b⟩, ?_⟩;simp only [intOf]; omega
  · obtain rfl : k = l.length := by omega
    have H2 : Hid (∀ y ∈ l, 0 ≤ Qq y) := by have := s.out; rwa [LO] at this
    have ac : ¬ ((l.length : Int) < (l.length : Int)) := by omega
    clear n s ab;go_wp2_with fail
    refine (He.out wr (T0.out _ b)).mono ?_;rintro e z ⟨rfl, u⟩;replace b := p.go b u;clear u He;by_cases r : endZ l 0 = (l.length : Int);rotate_left
    · have c := Lh (VV H0.out H1.out (fun x o hn => by have := H2.out x o; omega) r);have e3 : (endZ l 0 != (l.length : Int)) = true := by simpa using r
      clear r;go_wp2_with fail
      go_ret
      exact ⟨Ze c.out.symm, T1.out _ b⟩
    obtain ⟨t, ht⟩ := Whole.of r;have e3 : ((l.length : Int) != (l.length : Int)) = false := by simp
    have c := Lh (Y6 H1.out (fun x o hn => by have := H2.out x o; omega) ht);have Hd : Hid (Calls Tryz.prog 211 #[.slice A l.length cap, .int .i64 0] z fun e w' => e = .returned (.int .i64 (Ku t)) ∧ Below z.heap.size z w') := AbP A cap l Hl.out t.size t 0 (Nat.le_refl _) ht.hat z (T0.out _ b);rw [r];clear r ht;obtain ⟨d, hd⟩ : ∃ d, d = Ku t := ⟨_, rfl⟩;rw [← hd] at Hd c;clear hd;go_wp2_with fail
    refine Hd.out.mono ?_;rintro e w3 ⟨rfl, b3⟩;replace b := p.go b b3;clear b3 Hd;by_cases h4 : 30 < d
    · have m : Hid (Zv l = 13) := by have := c.out; rw [if_pos h4] at this; exact this
      clear c;go_wp2_with fail
      go_ret
      exact ⟨Ze m.out.symm, T1.out _ b⟩
    · have m : Hid (Zv l = 0) := by have := c.out; rw [if_neg h4] at this; exact this
      clear c;go_wp2_with fail
      go_ret
      exact ⟨Ze m.out.symm, T1.out _ b⟩
theorem Ew (p : PgV) (hbl : p.body.length ≤ 1000) (w : World) (hok : p.ok w) :
 Calls Tryz.prog 52 #[.agg p.cells] w fun e w' => e = .returned (.int .i64 (Q1 p)) ∧ Below w.heap.size w w' := by
 have r := Lh hbl;have s := Lh hok;clear hbl hok;go_enter Tryz.func52, Tryz.ntmps52
 go_wp2_with (refine Qn _ _ rfl ?_)
 refine Stop.to ?_;refine Qe rfl 25 _ rfl p.cells rfl ?_;intro G Gw Gh j Gb;have c := (Below.refl w.heap.size w).trans (Gb.mono Gh);have b := Lh (s.out.go c);have c2 := j.cellv (i := 2) (v := .slice p.ba p.body.length p.bcap) rfl;have m := Lh (AdT p.ba p.bcap p.body Gw b.out.brd r.out);clear Gb Gh s;go_wp2_with fail
 refine m.out.mono ?_;rintro e w1 ⟨rfl, g⟩;replace j := j.below g j.lt;replace c := c.trans (g.mono c.size);replace b := Lh (b.out.go g);clear g m c2;obtain ⟨a, o⟩ : ∃ a, a = Zv p.body := ⟨_, rfl⟩;rw [← o];by_cases n : a = 0;rotate_left
 · have l : Hid (Q1 p = a) := by show _ = _; rw [VW (by rw [← o]; exact n), ← o]
   have e0 : (a != 0) = true := by simpa using n
   clear o n;go_wp2_with fail
   go_ret
   exact ⟨Ze l.out.symm, c⟩
 subst n;have q := Lh o.symm;have m := Lh (AdG p w1 b.out);clear o;go_wp2_with (refine wpList_load_row rfl 25 _ rfl G rfl 25 p.cells (0, 0) _ j Tryz.underlying25 rfl (by kernel_rfl) ?_)
 refine m.out.mono ?_;rintro e w2 ⟨rfl, g⟩;replace j := j.below g j.lt;replace c := c.trans (g.mono c.size);replace b := Lh (b.out.go g);clear g m;obtain ⟨v, y⟩ : ∃ v, v = Ji p.params p.V := ⟨_, rfl⟩;rw [← y];by_cases n : v = 0;rotate_left
 · have ae : v = 14 := by rcases JT p.params p.V with h | h <;> omega
   have l : Hid (Q1 p = 14) := VX q.out (by rw [← y]; exact n);subst ae;clear y n;go_wp2_with fail
   go_ret
   exact ⟨Ze l.out.symm, c⟩
 subst n;have z := Lh y.symm;obtain ⟨ai, ag, t, ht, ah⟩ := UK q.out;have u := Lh ht;have m : Hid (∀ W, p.ok W → Calls Tryz.prog 66 #[.agg p.cells, .int .i64 0] W fun e w' => e = .returned (.int .i64 (ofT p.V t)) ∧ Below W.heap.size W w') := fun W h => AcQ p r.out t 0 u.out.hat W h
 obtain ⟨ad, af, hc⟩ := Z9 b.out.brd ht.hat.root;have c2 := j.cellv (i := 2) (v := .slice p.ba p.body.length p.bcap) rfl;have c0 := hc 0 _ rfl;have aj : (0 : Int) < (p.body.length : Int) := by have := ht.pos; omega
 simp only [NF, KO] at c0;rw [af] at c2;have ab : Hid (JN p.params p.V) := by rcases JT p.params p.V with h | h; exact h.2; have := z.out; omega
 clear y ai ag ah ht hc;by_cases d : t.root.tag = 20;rotate_left
 · have l : Hid (Q1 p = 15) := Yb q.out z.out (ZL u.out.hat (fun h => d h.1));have ac : (t.root.tag != 20) = true := by simpa using d
   clear d;go_wp2_with fail
   go_ret
   exact ⟨Ze l.out.symm, c⟩
 have ac : (t.root.tag != 20) = false := by simp [d]
 have aa := Lh d;clear d;go_wp2_with (refine Q6 rfl 25 _ rfl G rfl 25 p.cells (0, 0) _ j Tryz.underlying25 rfl (by kernel_rfl) ?_)
 refine (m.out w2 b.out).mono ?_;rintro e w3 ⟨rfl, g⟩;replace c := c.trans (g.mono c.size);clear g m c0 c2;obtain ⟨k, x⟩ : ∃ k, k = ofT p.V t := ⟨_, rfl⟩;rw [← x];by_cases h2 : k = 2
 · subst h2;have l : Hid (Q1 p = 0) := VY q.out z.out ⟨u.out.hat, u.out.size, ab.out, aa.out, x.symm⟩;clear x;go_wp2_with fail
   go_ret
   exact ⟨Ze l.out.symm, c⟩
 · have l : Hid (Q1 p = 15) := Yb q.out z.out (ZL u.out.hat (fun h => h2 (by rw [x]; exact h.2)));have e2 : (k != 2) = true := by simpa using h2
   clear x h2;go_wp2_with fail
   go_ret
   exact ⟨Ze l.out.symm, c⟩
theorem Aay (p : PgV) (hbl : p.body.length ≤ 1000) (w : World) (hok : p.ok w) :
 Calls Tryz.prog 70 #[.agg p.cells] w fun e w' => e = .returned (.int .i64 (Q1 p)) ∧ Below w.heap.size w w' := by
 have r := Lh hbl;have s := Lh hok;clear hbl hok;go_enter Tryz.func70, Tryz.ntmps70
 go_wp2_with (refine Qn _ _ rfl ?_)
 refine Stop.to ?_;refine Qe rfl 25 _ rfl p.cells rfl ?_;intro G Gw Gh j Gb;have c := (Below.refl w.heap.size w).trans (Gb.mono Gh);have b := Lh (s.out.go c);have c2 := j.cellv (i := 2) (v := .slice p.ba p.body.length p.bcap) rfl;have m := Lh (Aax p.ba p.bcap p.body Gw b.out.brd r.out);clear Gb Gh s;go_wp2_with fail
 refine m.out.mono ?_;rintro e w1 ⟨rfl, g⟩;replace j := j.below g j.lt;replace c := c.trans (g.mono c.size);replace b := Lh (b.out.go g);clear g m c2;obtain ⟨a, o⟩ : ∃ a, a = Zv p.body := ⟨_, rfl⟩;rw [← o];by_cases n : a = 0;rotate_left
 · have l : Hid (Q1 p = a) := by show _ = _; rw [VW (by rw [← o]; exact n), ← o]
   have e0 : (a != 0) = true := by simpa using n
   clear o n;go_wp2_with fail
   go_ret
   exact ⟨Ze l.out.symm, c⟩
 subst n;have q := Lh o.symm;have m := Lh (Vm p w1 b.out);clear o;go_wp2_with (refine wpList_load_row rfl 25 _ rfl G rfl 25 p.cells (0, 0) _ j Tryz.underlying25 rfl (by kernel_rfl) ?_)
 refine m.out.mono ?_;rintro e w2 ⟨rfl, g⟩;replace j := j.below g j.lt;replace c := c.trans (g.mono c.size);replace b := Lh (b.out.go g);clear g m;obtain ⟨v, y⟩ : ∃ v, v = Ji p.params p.V := ⟨_, rfl⟩;rw [← y];by_cases n : v = 0;rotate_left
 · have ae : v = 14 := by rcases JT p.params p.V with h | h <;> omega
   have l : Hid (Q1 p = 14) := VX q.out (by rw [← y]; exact n);subst ae;clear y n;go_wp2_with fail
   go_ret
   exact ⟨Ze l.out.symm, c⟩
 subst n;have z := Lh y.symm;obtain ⟨ai, ag, t, ht, ah⟩ := UK q.out;have u := Lh ht;have m : Hid (∀ W, p.ok W → Calls Tryz.prog 139 #[.agg p.cells, .int .i64 0] W fun e w' => e = .returned (.int .i64 (ofT p.V t)) ∧ Below W.heap.size W w') := fun W h => EU p r.out t.size t 0 (Nat.le_refl _) u.out.hat W h;obtain ⟨ad, af, hc⟩ := Z9 b.out.brd ht.hat.root;have c2 := j.cellv (i := 2) (v := .slice p.ba p.body.length p.bcap) rfl;have c0 := hc 0 _ rfl;have aj : (0 : Int) < (p.body.length : Int) := by have := ht.pos; omega
 simp only [NF, KO] at c0;rw [af] at c2;have ab : Hid (JN p.params p.V) := by rcases JT p.params p.V with h | h; exact h.2; have := z.out; omega
 clear y ai ag ah ht hc;by_cases d : t.root.tag = 20;rotate_left
 · have l : Hid (Q1 p = 15) := Yb q.out z.out (ZL u.out.hat (fun h => d h.1));have ac : (t.root.tag != 20) = true := by simpa using d
   clear d;go_wp2_with fail
   go_ret
   exact ⟨Ze l.out.symm, c⟩
 have ac : (t.root.tag != 20) = false := by simp [d]
 have aa := Lh d;clear d;go_wp2_with (refine Q6 rfl 25 _ rfl G rfl 25 p.cells (0, 0) _ j Tryz.underlying25 rfl (by kernel_rfl) ?_)
 refine (m.out w2 b.out).mono ?_;rintro e w3 ⟨rfl, g⟩;replace c := c.trans (g.mono c.size);clear g m c0 c2;obtain ⟨k, x⟩ : ∃ k, k = ofT p.V t := ⟨_, rfl⟩;rw [← x];by_cases h2 : k = 2
 · subst h2;have l : Hid (Q1 p = 0) := VY q.out z.out ⟨u.out.hat, u.out.size, ab.out, aa.out, x.symm⟩;clear x;go_wp2_with fail
   go_ret
   exact ⟨Ze l.out.symm, c⟩
 · have l : Hid (Q1 p = 15) := Yb q.out z.out (ZL u.out.hat (fun h => h2 (by rw [x]; exact h.2)));have e2 : (k != 2) = true := by simpa using h2
   clear x h2;go_wp2_with fail
   go_ret
   exact ⟨Ze l.out.symm, c⟩
def XS (l : List Nd) : Int → List Int → Int
 | a, [] => a
 | a, i :: π => if i < 0 ∨ ((kidsZ l a).length : Int) ≤ i then -1 else XS l (((kidsZ l a)[i.toNat]?).getD 0) π
def K6 (l : List Nd) (π : List Int) : Int := if endZ l 0 = (l.length : Int) then XS l 0 π else -1
theorem Abk {l : List Nd} {a i : Int} {π : List Int} {k : Nat} (hi : π[k]? = some i) (h : i < 0 ∨ ((kidsZ l a).length : Int) ≤ i) : XS l a (π.drop k) = -1 := by
 have c := (Lb.1 hi).1;have b := (Lb.1 hi).2;rw [LH c, b, XS, if_pos h]
theorem AhD {l : List Nd} {a b : Int} {π : List Int} {k j : Nat} (hi : π[k]? = some (j : Int)) (h : (kidsZ l a)[j]? = some b) : XS l a (π.drop k) = XS l b (π.drop (k + 1)) := by
 have d := (Lb.1 hi).1;have c := (Lb.1 hi).2;have e := (Lb.1 h).1;rw [LH d, c, XS, if_neg (by omega), Lg, h];rfl
theorem Aan {l : List Nd} : ∀ (π : List Int) (q : Nat) (t : Tr), At l q t → XS l (q : Int) π = match ZB π q t with | some (r, _) => (r : Int) | none => -1
 | [], q, t, _ => by rw [XS, ZB]
 | i :: π, q, .node x ks, h => by
  have hk := h.kidsZ
  have hkl : (kidsZ l (q : Int)).length = ks.length := by rw [hk, L3, ZP]; rfl
  rw [XS, ZB]
  by_cases h0 : i < 0
  · rw [if_pos (Or.inl h0), if_pos h0]
  rw [if_neg h0]
  by_cases h1 : ((kidsZ l (q : Int)).length : Int) ≤ i
  · rw [if_pos (Or.inr h1)]
    have h2 : ks[i.toNat]? = none := LW (by omega)
    rw [h2]
    split
    · rename_i h3; split at h3 <;> simp_all
    · rfl
  rw [if_neg (by omega)]
  obtain ⟨k, hk2⟩ : ∃ k, ks[i.toNat]? = some k := ⟨_, La (by omega)⟩
  obtain ⟨r, hr⟩ := Ab1 (p := q + 1) hk2
  have hr2 : (kidsZ l (q : Int))[i.toNat]? = some (r : Int) := by rw [hk, LA, show (Tr.node x ks).kids = ks from rfl, hr]; rfl
  rw [hr2, LN, hr, hk2]
  exact Aan π r k (h.kids.spot i.toNat r k hr hk2).1
end Go.Proofs.YtdcmppdhdcjpfaaGreat
namespace Go.Proofs.YtdcmppdhdcjpfaaGreat
open Go.RowKit
theorem Afe (a : Int) : ∀ l : List Int, (Aat a l).length ≤ l.length + 1
 | [] => by simp [Aat]
 | b :: l => by
  rw [Aat]
  split
  · simp
  · split
    · simp
    · have := Afe a l; simp; omega
theorem Aah : ∀ l : List Int, (Xg l).length ≤ l.length
 | [] => by simp [Xg]
 | a :: l => by have := Afe a (Xg l); have := Aah l; rw [Xg]; simp; omega
theorem EY : ∀ {l : List Int}, l.Pairwise (· < ·) → JS l
 | [], _ => trivial
 | [_], _ => trivial
 | a :: b :: l, h => by
  rw [Nj] at h
  exact ⟨h.1 b (by simp), EY h.2⟩
theorem Abv {s : List Int} (hs : s.Pairwise (· ≤ ·)) : JS (Lib.compact s) ∧ ∀ x, x ∈ Lib.compact s ↔ x ∈ s := by
 have c : ∀ j, j < s.length → ∃ x, s[j]? = some x ∧ s.toArray[j]! = x := fun j m => ⟨s[j], La m, by simp [m]⟩
 have l : ∀ i j x y, i ≤ j → s[i]? = some x → s[j]? = some y → x ≤ y := fun i j x y r q g => by
  rcases Nat.lt_or_eq_of_le r with h | h
  · obtain ⟨h1, rfl⟩ := Lb.1 q;obtain ⟨h2, rfl⟩ := Lb.1 g;exact Nf.1 hs i j h1 h2 h
  · subst h; rw [q] at g; injection g with g; omega
 constructor
 · refine EY ?_;unfold Lib.compact Lib.compactUpTo;rw [NA, List.pairwise_filter];rw [Nf];intro i j hi m r ad o;simp only [List.getElem_range] at *;rw [List.length_range] at hi m;unfold Lib.keeps at o;rw [decide_eq_true_eq] at o;obtain ⟨x, q, aa⟩ := c i hi;obtain ⟨y, g, d⟩ := c j m;obtain ⟨z, u, p⟩ := c (j - 1) (by omega);rw [aa, d];rw [d, p] at o;have h1 := l i (j - 1) x z (by omega) q u;have h2 := l (j - 1) j z y (by omega) u g;rcases o with h | h <;> omega
 · intro x;unfold Lib.compact Lib.compactUpTo;rw [LJ];constructor
   · rintro ⟨j, m, rfl⟩;have w := N3.1 (LZ.1 m).1;obtain ⟨y, g, d⟩ := c j w;rw [d]; exact Lf g
   · intro q;obtain ⟨j, m, b⟩ := LR q
     have : ∀ (n j : Nat), j ≤ n → s[j]? = some x → ∃ a : Nat, a ∈ (List.range s.length).filter (Lib.keeps s.toArray) ∧ s.toArray[a]! = x := by
      intro n
      induction n with
      | zero =>
       intro j v b;obtain rfl : j = 0 := by omega
       have k := (Lb.1 b).1;obtain ⟨y, g, d⟩ := c 0 k;rw [g] at b; injection b with b;exact ⟨0, LZ.2 ⟨N3.2 k, by simp [Lib.keeps]⟩, by rw [d, b]⟩
      | succ n ih =>
       intro j ac b;have k := (Lb.1 b).1;obtain ⟨y, g, d⟩ := c j k;rw [g] at b; injection b with b;subst b;by_cases t : Lib.keeps s.toArray j = true
       · exact ⟨j, LZ.2 ⟨N3.2 k, t⟩, d⟩
       · unfold Lib.keeps at t;rw [decide_eq_true_eq] at t;have v : j ≠ 0 := fun e => t (.inl e)
         obtain ⟨z, u, p⟩ := c (j - 1) (by omega)
         have ab : z = y := by
          rcases Decidable.em (s.toArray[j]! = s.toArray[j - 1]!) with e | e
          · rw [d, p] at e; exact e.symm
          · exact absurd (.inr e) t
         exact ih (j - 1) (by omega) (by rw [u, ab])
     exact this j j (Nat.le_refl _) (by rw [La m, b])
theorem Agj (l : List Int) : Lib.compact (l.mergeSort fun x y => decide (x ≤ y)) = Xg l := by
 have g : (l.mergeSort fun x y => decide (x ≤ y)).Pairwise (· ≤ ·) := by
  have := List.pairwise_mergeSort (le := fun x y : Int => decide (x ≤ y)) (fun a b c => by simp; omega) (fun a b => by simp; omega) l;exact this.imp (by simp)
 obtain ⟨d, e⟩ := Abv g;refine UX d (Xi l) fun x => ?_
 rw [e, KV];exact (List.mergeSort_perm l _).mem_iff
end Go.Proofs.YtdcmppdhdcjpfaaGreat
namespace Go.Proofs.YtdcmppdhdcjpfaaGreat
open Go.Shelf
def AcT : Go.Shelf.Ren := ⟨fun | 189 => 301 | 125 => 306 | 257 => 305 | 128 => 317 | 129 => 318 | 294 => 308 | 295 => 309 | 296 => 310 | 297 => 311 | 298 => 312 | 299 => 313 | 216 => 314 | 300 => 315 | 301 => 316 | 328 => 319 | 329 => 320 | 330 => 321 | 331 => 322 | 332 => 323 | 215 => 236 | 343 => 324 | n => n, fun | 28 => 22 | 3 => 3 | 46 => 278 | 0 => 0 | 51 => 92 | 53 => 219 | 4 => 4 | 183 => 347 | 182 => 346 | 131 => 129 | 5 => 5 | 9 => 9 | 218 => 354 | 222 => 113 | 228 => 359 | 229 => 227 | n => n, fun | n => n⟩
theorem Aid : Go.Proofs.Lays.n189 Tryz.prog AcT := {
 mixed := by kernel_rfl
 f125 := Tryz.func306.trans (congrArg some (by kernel_rfl))
 f128 := Tryz.func317.trans (congrArg some (by kernel_rfl))
 f129 := Tryz.func318.trans (congrArg some (by kernel_rfl))
 f189 := Tryz.func301.trans (congrArg some (by kernel_rfl))
 f215 := Tryz.func236.trans (congrArg some (by kernel_rfl))
 f216 := Tryz.func314.trans (congrArg some (by kernel_rfl))
 f257 := Tryz.func305.trans (congrArg some (by kernel_rfl))
 f294 := Tryz.func308.trans (congrArg some (by kernel_rfl))
 f295 := Tryz.func309.trans (congrArg some (by kernel_rfl))
 f296 := Tryz.func310.trans (congrArg some (by kernel_rfl))
 f297 := Tryz.func311.trans (congrArg some (by kernel_rfl))
 f298 := Tryz.func312.trans (congrArg some (by kernel_rfl))
 f299 := Tryz.func313.trans (congrArg some (by kernel_rfl))
 f300 := Tryz.func315.trans (congrArg some (by kernel_rfl))
 f301 := Tryz.func316.trans (congrArg some (by kernel_rfl))
 f328 := Tryz.func319.trans (congrArg some (by kernel_rfl))
 f329 := Tryz.func320.trans (congrArg some (by kernel_rfl))
 f330 := Tryz.func321.trans (congrArg some (by kernel_rfl))
 f331 := Tryz.func322.trans (congrArg some (by kernel_rfl))
 f332 := Tryz.func323.trans (congrArg some (by kernel_rfl))
 f343 := Tryz.func324.trans (congrArg some (by kernel_rfl))
 t0 := Tryz.underlying0
 a0 := Tryz.isAgg0
 z0 := Tryz.sizeOf0
 v0 := Tryz.zeroValue0
 t3 := Tryz.underlying3
 a3 := Tryz.isAgg3
 z3 := Tryz.sizeOf3
 v3 := Tryz.zeroValue3
 t4 := Tryz.underlying4
 a4 := Tryz.isAgg4
 z4 := Tryz.sizeOf4
 v4 := Tryz.zeroValue4
 t5 := Tryz.underlying5
 a5 := Tryz.isAgg5
 z5 := Tryz.sizeOf5
 v5 := Tryz.zeroValue5
 t9 := Tryz.underlying9
 a9 := Tryz.isAgg9
 z9 := Tryz.sizeOf9
 v9 := Tryz.zeroValue9
 t28 := Tryz.underlying22
 a28 := Tryz.isAgg22
 z28 := Tryz.sizeOf22
 v28 := Tryz.zeroValue22
 t46 := Tryz.underlying278
 a46 := Tryz.isAgg278
 z46 := Tryz.sizeOf278
 v46 := Tryz.zeroValue278
 t51 := Tryz.underlying92
 a51 := Tryz.isAgg92
 z51 := Tryz.sizeOf92
 v51 := Tryz.zeroValue92
 t53 := Tryz.underlying219
 a53 := Tryz.isAgg219
 z53 := Tryz.sizeOf219
 v53 := Tryz.zeroValue219
 t131 := Tryz.underlying129
 a131 := Tryz.isAgg129
 z131 := Tryz.sizeOf129
 v131 := Tryz.zeroValue129
 t182 := Tryz.underlying346
 a182 := Tryz.isAgg346
 z182 := Tryz.sizeOf346
 v182 := Tryz.zeroValue346
 t183 := Tryz.underlying347
 a183 := Tryz.isAgg347
 z183 := Tryz.sizeOf347
 v183 := Tryz.zeroValue347
 t218 := Tryz.underlying354
 a218 := Tryz.isAgg354
 z218 := Tryz.sizeOf354
 v218 := Tryz.zeroValue354
 t222 := Tryz.underlying113
 a222 := Tryz.isAgg113
 z222 := Tryz.sizeOf113
 v222 := Tryz.zeroValue113
 t228 := Tryz.underlying359
 a228 := Tryz.isAgg359
 z228 := Tryz.sizeOf359
 v228 := Tryz.zeroValue359
 t229 := Tryz.underlying227
 a229 := Tryz.isAgg227
 z229 := Tryz.sizeOf227
 v229 := Tryz.zeroValue227 }
open Go.Sort Go.RowKit in
theorem slices_Sort_int (blk off cap : Nat) (zs : List Int) (w : World) (hH : Holds (Value.int .i64) w blk off zs.toArray) (hblk : blk < w.heap.size) (hsz : zs.length < 4611686018427387904) :
 Calls Tryz.prog 301 #[.slice (some ⟨blk, off, none⟩) zs.length cap] w fun e w' =>
  e = .returned (.tuple #[]) ∧ ∃ n os, w' = grow (putRow (Value.int .i64) (Sort.ahead w n) blk off (zs.mergeSort fun x y => decide (x ≤ y)).toArray) os := Any.slices_Sort_int Aid blk off cap zs w hH hblk hsz
def Aau : Go.Shelf.Ren := ⟨fun | 20 => 302 | n => n, fun | 22 => 22 | 3 => 3 | 4 => 4 | 0 => 0 | n => n, fun | n => n⟩
theorem AfV : Go.Proofs.Lays2.n20 Tryz.prog Aau := {
 mixed := by kernel_rfl
 f20 := Tryz.func302.trans (congrArg some (by kernel_rfl))
 t0 := Tryz.underlying0
 a0 := Tryz.isAgg0
 z0 := Tryz.sizeOf0
 v0 := Tryz.zeroValue0
 t3 := Tryz.underlying3
 a3 := Tryz.isAgg3
 z3 := Tryz.sizeOf3
 v3 := Tryz.zeroValue3
 t4 := Tryz.underlying4
 a4 := Tryz.isAgg4
 z4 := Tryz.sizeOf4
 v4 := Tryz.zeroValue4
 t22 := Tryz.underlying22
 a22 := Tryz.isAgg22
 z22 := Tryz.sizeOf22
 v22 := Tryz.zeroValue22
 i3 := by kernel_rfl }
open Go.RowKit Go.Lib Go.Sort in
theorem slices_Compact_int (blk off cap : Nat) (zs : List Int) (w : World) (hH : Holds (Value.int .i64) w blk off zs.toArray) (hsz : zs.length ≤ 9223372036854775807) (hcap : zs.length ≤ cap) :
 Calls Tryz.prog 302 #[.slice (some ⟨blk, off, none⟩) zs.length cap] w fun e w' => e = .returned (.slice (some ⟨blk, off, none⟩) (Lib.compact zs).length cap) ∧ ∃ q, w' = putRow (Value.int .i64) (Sort.ahead w q) blk off (Lib.compact zs ++ List.replicate (zs.length - (Lib.compact zs).length) 0).toArray := Any.slices_Compact_int AfV blk off cap zs w hH hsz hcap
end Go.Proofs.YtdcmppdhdcjpfaaGreat
