/- Lemmas for VerdictTellsP. -/
import Derived.Test.YtdcmppdhdcjpfaaGreatZz1
import Derived.Test.YtdcmppdhdcjpfaaGreatZz20
import Derived.Test.YtdcmppdhdcjpfaaGreatZz10
import Derived.Laws.CopyRow
set_option linter.unusedVariables false
set_option linter.unusedSimpArgs false
set_option maxRecDepth 100000
set_option maxHeartbeats 16000000
namespace Go.Proofs.YtdcmppdhdcjpfaaGreat
open Go.RowKit Go.Deep
def Zz (p : PgV) (q n : Int) : Array Value := #[.int .i64 p.params, .slice p.va p.V.length p.vcap, .slice p.ba p.body.length p.bcap, .int .i64 q, .int .i64 n]
theorem AdR {w : World} : (zeroValue 85).run Tryz.prog w = .ok (.agg #[.int .i64 0, .int .i64 0]) w := by kernel_rfl
theorem KP (p : PgV) (q : Nat) (n : Int) (x : Nd) (w : World) (hx : p.body[q]? = some x) (hok : p.ok w) :
 Calls Tryz.prog 182 #[.agg (Zz p q n)] w fun e w' => e = .returned (.agg #[.int .i64 x.tag, .int .i64 x.n]) ∧ Below w.heap.size w w' := by
 obtain ⟨pa, va, vc, V, ba, bc, body⟩ := p;obtain ⟨d, c, o⟩ := Z9 hok.brd hx;have c : ba = some d := c;subst c;have hx : body[q]? = some x := hx;have hq := (Lb.1 hx).1;have ab : (q : Int) < (body.length : Int) := by omega
 have y : Hid (∀ W, Below w.heap.size w W → ∀ j u, x.cells[j]? = some u → W.cell? ((d.add (q * 2)).add j) = some u) := fun W b => by
  obtain ⟨aa, e, o⟩ := Z9 (hok.go b).brd hx;injection e with e;subst e;exact o
 clear o hx hok hq;go_enter Tryz.func182, Tryz.ntmps182
 go_wp2_with (refine Qn _ _ rfl ?_)
 refine Stop.to ?_;refine Qe rfl 176 _ rfl (Zz ⟨pa, va, vc, V, some d, bc, body⟩ q n) rfl ?_;intro G Gw t k s;go_wp2_with (first | fail | (refine QT _ rfl ?_))
 refine Stop.to ?_;refine Qm rfl 85 rfl _ _ AdR rfl ?_;intro J Jw g Jr m;have r := k.below m (Ld k.lt g);have h := (Below.refl w.heap.size w).trans (s.mono t);have z := h.trans ((m.mono g).mono h.size);have hJ : w.heap.size ≤ J := Li h.size g;have c2 := r.cellv (i := 2) (v := .slice (some d) body.length bc) rfl;have c3 := r.cellv (i := 3) (v := .int .i64 q) rfl;have l := Lh (y.out _ z);clear k s m h t g r y;go_wp2_with (first | (refine QE rfl 85 _ rfl (d.add (q * 2)) rfl x.cells _ l.out Tryz.underlying85 rfl (by kernel_rfl) ?_) | (refine Qv 85 _ _ rfl ?_))
 refine Stop.to ?_;refine Ql rfl 85 _ _ rfl J #[.int .i64 x.tag, .int .i64 x.n] rfl rfl 85 _ Jr (by kernel_rfl) rfl (by simp [Value.oneCell']) ?_;intro W9 r9 o9;go_wp2_with fail
 refine bodyPost_ret (results_cell_row Tryz.results182 _ _ J 85 _ (0, 0) _ rfl r9 Tryz.underlying85 rfl (by kernel_rfl)) rfl ?_;exact ⟨rfl, z.trans (o9.below hJ)⟩
theorem YA (a b : Int) (w : World) : (Instr.field 85 (.agg #[.int .i64 a, .int .i64 b]) 0).run Tryz.prog w = .ok (.int .i64 a) w := by kernel_rfl
theorem AaT (a b : Int) (w : World) : (Instr.field 85 (.agg #[.int .i64 a, .int .i64 b]) 1).run Tryz.prog w = .ok (.int .i64 b) w := by kernel_rfl
theorem AfE (p : PgV) (q : Nat) (n lo hi : Int) (x : Nd) (w : World) (hx : p.body[q]? = some x) (hok : p.ok w) (h1 : lo ≤ x.tag) (h2 : x.tag ≤ hi) (h3 : lo ≤ n) (h4 : n ≤ hi) :
 Calls Tryz.prog 245 #[.agg (Zz p q n), .int .i64 lo, .int .i64 hi] w fun e w' => e = .returned (.bool true) ∧ Below w.heap.size w w' := by
 have m : Hid (∀ W, Below w.heap.size w W → Calls Tryz.prog 182 #[.agg (Zz p q n)] W fun e w' => e = .returned (.agg #[.int .i64 x.tag, .int .i64 x.n]) ∧ Below W.heap.size W w') := fun W b => KP p q n x W hx (hok.go b);clear hx hok;have t := YA x.tag x.n;go_enter Tryz.func245, Tryz.ntmps245
 go_wp2_with (refine Qn _ _ rfl ?_)
 refine Stop.to ?_;refine Qe rfl 176 _ rfl (Zz p q n) rfl ?_;intro G r k d j;have g := (Below.refl w.heap.size w).trans (j.mono k);have l := Lh (m.out _ g);clear j k m;go_wp2_with (refine wpList_load_row rfl 176 _ rfl G rfl 176 (Zz p q n) (0, 0) _ d Tryz.underlying176 rfl (by kernel_rfl) ?_)
 refine l.out.mono ?_;rintro e u ⟨rfl, h⟩;have c := d.below h d.lt;have o := g.trans (h.mono g.size);have s := c.cellv (i := 4) (v := .int .i64 n) rfl;clear d c g h l;go_wp2_with fail
 go_ret
 exact ⟨rfl, o⟩
theorem Aja (W : World) : (Instr.buildSlice 23 0 #[]).run Tryz.prog W = .ok (.slice (some ⟨W.heap.size, 0, none⟩) 0 0) (W.alloc (.cells #[] 85)) := by kernel_rfl
theorem Eb (A : Option Addr) (cap : Nat) (l : List Nd) (w : World) (hr : Rd w A (l.flatMap Nd.cells)) (hnil : A = none → l = []) (hl : l.length ≤ 100000) :
 Calls Tryz.prog 186 #[.slice A l.length cap] w fun e w' => NdsR l w w' e := by
 rcases A with _ | o
 · have q := hnil rfl;subst q;have j := fun W : World => Lib.run_eql_slice_nil (P := Tryz.prog) W 23 85 none 0 cap 0 0 Tryz.underlying23
   simp only [Option.isNone_none] at j;rw [show ([] : List Nd).length = 0 from rfl];go_enter Tryz.func186, Tryz.ntmps186
   go_wp2_with fail
   go_ret
   exact ⟨_, rfl, World.ownsRow_nil _ _ _ _, Below.refl _ _⟩
 · have n := Lh hr;have k := Lh hl;clear hr hl hnil;have j := fun W : World => Lib.run_eql_slice_nil (P := Tryz.prog) W 23 85 (some o) l.length cap 0 0 Tryz.underlying23
   simp only [Option.isNone_some] at j;go_enter Tryz.func186, Tryz.ntmps186
   go_wp2_with (refine Zw _ _ _ rfl ?_)
   refine Stop.to ?_;refine Q9 rfl _ (QW [] rfl (Aja w)) ?_;have i := Row.new w 85 #[];have g := (Below.refl w.heap.size w).alloc (Nat.le_refl _) (.cells #[] 85);generalize w.alloc (.cells #[] 85) = w1 at i g ⊢;obtain ⟨t, u, c, b, h, _⟩ := ZW (P := Tryz.prog) 23 85 (.agg #[.int .i64 0, .int .i64 0]) 2 16 Tryz.underlying23 AbB rfl (by decide) (by decide) (X2 (B := w.heap.size) (size := 2) (Nat.le_refl _) i) g.size (n.out.go g) (m := l.length) (cap := cap) (by rw [Z6]) (VB l) (by simp) (by have := k.out; omega);rw [LI, Lp] at b;have p := QO g (X2 (B := w.heap.size) (size := 2) (Nat.le_refl _) i) h g.size (Nat.le_refl _);have d := Lh c;clear c h i;go_wp2_with (refine Y5 ?_)
   refine Stop.to ?_;refine Q9 rfl _ (QV rfl d.out) ?_;obtain ⟨r, s, rfl⟩ := Zl b;go_wp2
   go_ret
   exact ⟨_, rfl, b, p⟩
theorem AcE : ∀ {l : List Nd} {q : Nat} (y : Nd), q < l.length → (l.set q y).flatMap Nd.cells = (l.flatMap Nd.cells).take (q * 2) ++ (y.cells ++ (l.flatMap Nd.cells).drop (q * 2 + 2))
 | [], _, _, h => by simp at h
 | x :: l, 0, y, _ => by simp [Nd.cells]
 | x :: l, q + 1, y, h => by
  have ih := AcE (l := l) (q := q) y (by simpa using h)
  rw [List.set_cons_succ, LC, LC, ih]
  have e : (q + 1) * 2 = 2 + q * 2 := by omega
  have e2 : (q + 1) * 2 + 2 = 2 + (q * 2 + 2) := by omega
  have hx : x.cells.length = 2 := rfl
  have d1 : List.drop (2 + (q * 2 + 2)) (x.cells ++ l.flatMap Nd.cells) = List.drop (q * 2 + 2) (l.flatMap Nd.cells) := by rw [← Nm, List.drop_left' hx]
  have d2 : List.take (2 + q * 2) (x.cells ++ l.flatMap Nd.cells) = x.cells ++ (l.flatMap Nd.cells).take (q * 2) := by rw [List.take_add, N1 hx, List.drop_left' hx]
  rw [e2, d1, e, d2, Lx]
theorem Ahf {W : World} {B n : Nat} {v : Value} {l : List Nd} (h : W.ownsRow B 85 2 v n (l.flatMap Nd.cells)) {q : Nat} (hq : q < n) :
 ∃ g cap cur, v = .slice (some ⟨g, 0, none⟩) n cap ∧ B ≤ g ∧ n ≤ cap ∧ Row W g 85 cur ∧ q * 2 + 2 ≤ cur.size ∧ ∀ (W' : World) (y : Nd), Row W' g 85 (ZI cur (q * 2) y.cells) → W'.ownsRow B 85 2 v n ((l.set q y).flatMap Nd.cells) := by
 obtain ⟨m, o⟩ := h;have s : l.length = n := by rw [Z6] at m; omega
 rcases o with ⟨_, h0⟩ | ⟨g, cap, cur, i, d, r, e, t, w, x⟩
 · omega
 refine ⟨g, cap, cur, i, d, e, r, by omega, fun W' y u => ⟨by rw [Z6, LK, s], .inr ⟨g, cap, _, i, d, u, e, t, ?_, ?_⟩⟩⟩
 · unfold ZI;have b : y.cells.length = 2 := rfl;simp only [Lk, Le, L4, LM, LT, b];omega
 · have b : y.cells.length = 2 := rfl;have p : cur.toList.length = cap * 2 := by rw [LT, w]
   have c : (cur.toList.take (q * 2)).length = q * 2 := by rw [L4]; omega
   rw [AcE y (by omega), ← x];unfold ZI;rw [List.toList_toArray, b];have j : (cur.toList.take (n * 2)).take (q * 2) = cur.toList.take (q * 2) := by rw [NC, NJ (by omega)]
   have k : (cur.toList.take (n * 2)).drop (q * 2 + 2) = (cur.toList.drop (q * 2 + 2)).take (n * 2 - (q * 2 + 2)) := by rw [List.drop_take]
   have z : (cur.toList.take (q * 2)).take (n * 2) = cur.toList.take (q * 2) := L1 (by omega);have t2 : y.cells.take (n * 2 - q * 2) = y.cells := L1 (by omega);rw [j, k, Lx, List.take_append, c, z, List.take_append, t2, b, Nat.sub_sub]
theorem Acx (p : PgV) (q : Nat) (n : Int) (y : Nd) (w : World) (hq : q < p.body.length) (hbl : p.body.length ≤ 1000) (hok : p.ok w) :
 Calls Tryz.prog 183 #[.agg (Zz p q n), .agg #[.int .i64 y.tag, .int .i64 y.n]] w fun e w' => NdsR (p.body.set q y) w w' e := by
 have b := Lh hok;have Hq := Lh hq;have t := Lh hbl;have ac : (q : Int) < (p.body.length : Int) := by omega
 clear hok hbl hq;go_enter Tryz.func183, Tryz.ntmps183
 go_wp2_with (refine Qn _ _ rfl ?_)
 refine Stop.to ?_;refine Qe rfl 176 _ rfl (Zz p q n) rfl ?_;intro G Gw Gh s Gb;go_wp2_with (refine Qn _ _ rfl ?_)
 refine Stop.to ?_;refine Qe rfl 85 _ rfl #[.int .i64 y.tag, .int .i64 y.n] rfl ?_;intro J Jw x z u;have r := s.below u (Ld s.lt x);have b1 := (Below.refl w.heap.size w).trans (Gb.mono Gh);have k := b1.trans ((u.mono x).mono b1.size);have c2 := r.cellv (i := 2) (v := .slice p.ba p.body.length p.bcap) rfl;have h := Lh (Eb p.ba p.bcap p.body Jw (b.out.go k).brd (fun e => Lt (by have h1 := b.out.blen; have h2 := b.out.bnil e; omega)) (by have := t.out; omega));clear Gb u b1 Gh x s b;go_wp2_with fail
 refine h.out.mono ?_;rintro e w1 ⟨v, rfl, c, o⟩;obtain ⟨g, aa, l, rfl, hb, hc, hr, hs, d⟩ := Ahf c Hq.out;have m := r.below o r.lt;have ab := z.below o z.lt;have b4 := k.trans (o.mono k.size);have c3 := m.cellv (i := 3) (v := .int .i64 q) rfl;have j := Lh d;have hg : w.heap.size ≤ g := Li k.size hb;clear h c d r z c2 o m hb;go_wp2_with (first | (refine wpList_load_row rfl 85 _ rfl J rfl 85 #[.int .i64 y.tag, .int .i64 y.n] (0, 0) _ ab Tryz.underlying85 rfl (by kernel_rfl) ?_) | (refine Qv 85 _ _ rfl ?_))
 refine Stop.to ?_;refine Qs rfl 85 _ _ rfl g (q * 2) (by first | rfl | simp [Addr.add]) (.agg #[.int .i64 y.tag, .int .i64 y.n]) rfl y.cells rfl 85 l _ hr (by kernel_rfl) (by show q * 2 + 2 ≤ l.size; exact hs) (by simp [Nd.cells, Value.oneCell']) rfl ?_
 intro W9 r9 o9;have HF : Hid (NdsR (p.body.set q y) w W9 (.returned (.slice (some ⟨g, 0, none⟩) p.body.length aa))) := ⟨_, rfl, by rw [LK]; exact QK (j.out W9 y r9) k.size, b4.trans (o9.below hg)⟩;go_wp2_with fail
 go_ret
 exact HF.out
theorem Ef (p : PgV) (q : Nat) (n lo hi : Int) (x : Nd) (w : World) (hx : p.body[q]? = some x) (hbl : p.body.length ≤ 1000) (hok : p.ok w) (h1 : lo ≤ x.tag) (h2 : x.tag ≤ hi) (h3 : lo ≤ n) (h4 : n ≤ hi) :
 Calls Tryz.prog 181 #[.agg (Zz p q n), .int .i64 lo, .int .i64 hi] w fun e w' => NdsR (p.body.set q ⟨n, x.n⟩) w w' e := by
 obtain ⟨S, j⟩ : ∃ G0 : Nat → World → Prop, G0 = (fun G W => Row W G 176 (Zz p q n) ∧ p.ok W ∧ Below w.heap.size w W) := ⟨_, rfl⟩;have l : ∀ G, St (S G) := by intro G; rw [j]; infer_instance
 have T0 : Hid (∀ G W, S G W → Row W G 176 (Zz p q n)) := by show ∀ G W, _; rw [j]; exact fun G W h => h.1
 have T1 : Hid (∀ G W, S G W → p.ok W) := by show ∀ G W, _; rw [j]; exact fun G W h => h.2.1
 have T2 : Hid (∀ G W, S G W → Below w.heap.size w W) := by show ∀ G W, _; rw [j]; exact fun G W h => h.2.2
 have s : Hid (∀ G W, Row W G 176 (Zz p q n) → Below w.heap.size w W → S G W) := by show ∀ G W, _; rw [j]; exact fun G W r b => ⟨r, hok.go b, b⟩
 have Hx := Lh hx;have z := Lh hbl;have t := Lh (And.intro (And.intro h1 h2) (And.intro h3 h4));have f1 := AaT x.tag x.n;clear j hok hx hbl h1 h2 h3 h4;go_enter Tryz.func181, Tryz.ntmps181
 go_wp2_with (refine Qn _ _ rfl ?_)
 refine Stop.to ?_;refine Qe rfl 176 _ rfl (Zz p q n) rfl ?_;intro G Gw Gh y Gb;have b1 := (Below.refl w.heap.size w).trans (Gb.mono Gh);have o := s.out G Gw y b1;replace l := l G;have m := Lh (AfE p q n lo hi x Gw Hx.out (T1.out G _ o) t.out.1.1 t.out.1.2 t.out.2.1 t.out.2.2);clear Gb Gh b1 s;go_wp2_with (refine wpList_load_row rfl 176 _ rfl G rfl 176 (Zz p q n) (0, 0) _ y Tryz.underlying176 rfl (by kernel_rfl) ?_)
 refine m.out.mono ?_;rintro e w1 ⟨rfl, b2⟩;replace o := l.go o b2;clear y m b2;go_wp2_with fail
 refine Zo (S G) 7 (by kernel_rfl) (by kernel_rfl) (St.drew o) ?_;clear o;simp only [L0, LE, Ly, L8];(refine QD rfl 176 _ rfl (G) rfl 176 _ _ (T0.out G) Tryz.underlying176 rfl (by kernel_rfl) ?_; simp only [Act.put, Qa, Qb, Qc]);(refine Qf rfl ?_ (fun W k => ?_) ?_; rotate_left; (focus (go_simp; exact rfl)); simp only [Act.put, Qa, Qb, Qc]);(refine Qf rfl ?_ (fun W k => ?_) ?_; rotate_left; (focus (have c := (T0.out G W k).cellv (i := 4) (v := .int .i64 n) rfl; go_simp; exact rfl)); simp only [Act.put, Qa, Qb, Qc]);(refine QD rfl 176 _ rfl (G) rfl 176 _ _ (T0.out G) Tryz.underlying176 rfl (by kernel_rfl) ?_; simp only [Act.put, Qa, Qb, Qc]);(refine QB rfl 182 _ (fun W => by (go_simp; try rfl)) (.agg #[.int .i64 x.tag, .int .i64 x.n]) (fun W k => KP p q n x W Hx.out (T1.out G W k)) ?_; simp only [Act.put, Qa, Qb, Qc])
 (refine Qf rfl (.int .i64 x.n) (fun W k => E9 rfl _ (AaT x.tag x.n W)) ?_; simp only [Act.put, Qa, Qb, Qc]);(refine Qf rfl ?_ (fun W k => ?_) ?_; rotate_left; (focus (go_simp; exact rfl)); simp only [Act.put, Qa, Qb, Qc]);refine QG fun W k => ?_
 have m := Lh (Acx p q n ⟨n, x.n⟩ W (Lb.1 Hx.out).1 z.out (T1.out G W k));go_wp2_with fail
 refine m.out.mono ?_;rintro e w2 ⟨v, rfl, g, b3⟩;have u := T2.out G W k;have d := QK g u.size;rw [LK] at g d;have HB := Lh (u.trans (b3.mono u.size));obtain ⟨A3, c3, rfl⟩ := Zl g;have HF := Lh d;clear g d b3 u m;go_wp2_with fail
 go_ret
 exact ⟨_, rfl, by rw [LK]; exact HF.out, HB.out⟩
theorem AdZ (p : PgV) (q : Nat) (n : Int) (x : Nd) (w : World) (hx : p.body[q]? = some x) (hbl : p.body.length ≤ 1000) (hok : p.ok w) (h : (7 ≤ x.tag ∧ x.tag ≤ 11) ∧ 7 ≤ n ∧ n ≤ 11) :
 Calls Tryz.prog 109 #[.agg (Zz p q n)] w fun e w' => NdsR (p.body.set q ⟨n, x.n⟩) w w' e := by
 have l : Hid (∀ W, Below w.heap.size w W → Calls Tryz.prog 181 #[.agg (Zz p q n), .int .i64 7, .int .i64 11] W fun e w' => NdsR (p.body.set q ⟨n, x.n⟩) W w' e) := fun W b => Ef p q n 7 11 x W hx hbl (hok.go b) h.1.1 h.1.2 h.2.1 h.2.2;clear hx hbl hok h;go_enter Tryz.func109, Tryz.ntmps109
 go_wp2_with (refine Qn _ _ rfl ?_)
 refine Stop.to ?_;refine Qe rfl 176 _ rfl (Zz p q n) rfl ?_;intro G t j k i;have g := (Below.refl w.heap.size w).trans (i.mono j);have H := Lh (l.out _ g);clear l i j;go_wp2_with (refine wpList_load_row rfl 176 _ rfl G rfl 176 (Zz p q n) (0, 0) _ k Tryz.underlying176 rfl (by kernel_rfl) ?_)
 refine H.out.mono ?_;rintro e y ⟨v, rfl, d, m⟩;have c := QK d g.size;rw [LK] at d c;have o := Lh (g.trans (m.mono g.size));obtain ⟨s, u, rfl⟩ := Zl d;have r := Lh c;clear d c m g H k;go_wp2_with fail
 go_ret
 exact ⟨_, rfl, by rw [LK]; exact r.out, o.out⟩
theorem AgI (p : PgV) (q : Nat) (n : Int) (x : Nd) (w : World) (hx : p.body[q]? = some x) (hbl : p.body.length ≤ 1000) (hok : p.ok w) (h : (12 ≤ x.tag ∧ x.tag ≤ 17) ∧ 12 ≤ n ∧ n ≤ 17) :
 Calls Tryz.prog 110 #[.agg (Zz p q n)] w fun e w' => NdsR (p.body.set q ⟨n, x.n⟩) w w' e := by
 have l : Hid (∀ W, Below w.heap.size w W → Calls Tryz.prog 181 #[.agg (Zz p q n), .int .i64 12, .int .i64 17] W fun e w' => NdsR (p.body.set q ⟨n, x.n⟩) W w' e) := fun W b => Ef p q n 12 17 x W hx hbl (hok.go b) h.1.1 h.1.2 h.2.1 h.2.2;clear hx hbl hok h;go_enter Tryz.func110, Tryz.ntmps110
 go_wp2_with (refine Qn _ _ rfl ?_)
 refine Stop.to ?_;refine Qe rfl 176 _ rfl (Zz p q n) rfl ?_;intro G t j k i;have g := (Below.refl w.heap.size w).trans (i.mono j);have H := Lh (l.out _ g);clear l i j;go_wp2_with (refine wpList_load_row rfl 176 _ rfl G rfl 176 (Zz p q n) (0, 0) _ k Tryz.underlying176 rfl (by kernel_rfl) ?_)
 refine H.out.mono ?_;rintro e y ⟨v, rfl, d, m⟩;have c := QK d g.size;rw [LK] at d c;have o := Lh (g.trans (m.mono g.size));obtain ⟨s, u, rfl⟩ := Zl d;have r := Lh c;clear d c m g H k;go_wp2_with fail
 go_ret
 exact ⟨_, rfl, by rw [LK]; exact r.out, o.out⟩
theorem Ad8 (p : PgV) (q : Nat) (n : Int) (x : Nd) (w : World) (hx : p.body[q]? = some x) (hbl : p.body.length ≤ 1000) (hok : p.ok w) (h : (18 ≤ x.tag ∧ x.tag ≤ 19) ∧ 18 ≤ n ∧ n ≤ 19) :
 Calls Tryz.prog 111 #[.agg (Zz p q n)] w fun e w' => NdsR (p.body.set q ⟨n, x.n⟩) w w' e := by
 have l : Hid (∀ W, Below w.heap.size w W → Calls Tryz.prog 181 #[.agg (Zz p q n), .int .i64 18, .int .i64 19] W fun e w' => NdsR (p.body.set q ⟨n, x.n⟩) W w' e) := fun W b => Ef p q n 18 19 x W hx hbl (hok.go b) h.1.1 h.1.2 h.2.1 h.2.2;clear hx hbl hok h;go_enter Tryz.func111, Tryz.ntmps111
 go_wp2_with (refine Qn _ _ rfl ?_)
 refine Stop.to ?_;refine Qe rfl 176 _ rfl (Zz p q n) rfl ?_;intro G t j k i;have g := (Below.refl w.heap.size w).trans (i.mono j);have H := Lh (l.out _ g);clear l i j;go_wp2_with (refine wpList_load_row rfl 176 _ rfl G rfl 176 (Zz p q n) (0, 0) _ k Tryz.underlying176 rfl (by kernel_rfl) ?_)
 refine H.out.mono ?_;rintro e y ⟨v, rfl, d, m⟩;have c := QK d g.size;rw [LK] at d c;have o := Lh (g.trans (m.mono g.size));obtain ⟨s, u, rfl⟩ := Zl d;have r := Lh c;clear d c m g H k;go_wp2_with fail
 go_ret
 exact ⟨_, rfl, by rw [LK]; exact r.out, o.out⟩
theorem Ad0 (p : PgV) (q : Nat) (n : Int) (x : Nd) (w : World) (hx : p.body[q]? = some x) (hbl : p.body.length ≤ 1000) (hok : p.ok w) (h : x.tag = 1 ∨ (x.tag = 2 ∧ 0 ≤ n ∧ n ≤ 1)) :
 Calls Tryz.prog 112 #[.agg (Zz p q n)] w fun e w' => NdsR (p.body.set q ⟨x.tag, n⟩) w w' e := by
 have y : Hid (∀ W, Below w.heap.size w W → Calls Tryz.prog 182 #[.agg (Zz p q n)] W fun e w' => e = .returned (.agg #[.int .i64 x.tag, .int .i64 x.n]) ∧ Below W.heap.size W w') := fun W b => KP p q n x W hx (hok.go b);have z : Hid (∀ W, Below w.heap.size w W → Calls Tryz.prog 183 #[.agg (Zz p q n), .agg #[.int .i64 x.tag, .int .i64 n]] W fun e w' => NdsR (p.body.set q ⟨x.tag, n⟩) W w' e) := fun W b => Acx p q n ⟨x.tag, n⟩ W (Lb.1 hx).1 hbl (hok.go b);obtain ⟨t, m⟩ := x;dsimp only at h y z;clear hx hok hbl;go_enter Tryz.func112, Tryz.ntmps112
 go_wp2_with (refine Qn _ _ rfl ?_)
 refine Stop.to ?_;refine Qe rfl 176 _ rfl (Zz p q n) rfl ?_;intro G Gw Gh o Gb;have r := (Below.refl w.heap.size w).trans (Gb.mono Gh);have Hc := Lh (y.out _ r);clear Gb Gh y;go_wp2_with (refine wpList_load_row rfl 176 _ rfl G rfl 176 (Zz p q n) (0, 0) _ o Tryz.underlying176 rfl (by kernel_rfl) ?_)
 refine Hc.out.mono ?_;rintro e w1 ⟨rfl, b2⟩;have k := o.below b2 o.lt;have b3 := r.trans (b2.mono r.size);clear o r b2 Hc;go_wp2_with (first | fail | (refine QT _ rfl ?_))
 refine Stop.to ?_;refine Qm rfl 85 rfl _ _ AdR rfl ?_;intro J Jw Jh Jr Jb;go_wp2_with (refine Qv 85 _ _ rfl ?_)
 refine Stop.to ?_;refine Ql rfl 85 _ _ rfl J #[.int .i64 t, .int .i64 m] rfl rfl 85 _ Jr (by kernel_rfl) rfl (by simp [Value.oneCell']) ?_;intro W9 r9 o9;have bJ := (Below.refl w1.heap.size w1).trans (Jb.mono Jh);have bK := bJ.trans (o9.below Jh);have g := k.below bK k.lt;have j := b3.trans (bK.mono b3.size);have c0 := r9.cellv (i := 0) (v := .int .i64 t) rfl;have c4 := g.cellv (i := 4) (v := .int .i64 n) rfl;have g0 := g.cellv (i := 0) (v := .int .i64 p.params) rfl;have g1 := g.cellv (i := 1) (v := .slice p.va p.V.length p.vcap) rfl;have g2 := g.cellv (i := 2) (v := .slice p.ba p.body.length p.bcap) rfl;have g3 := g.cellv (i := 3) (v := .int .i64 q) rfl;have H := Lh (z.out _ j);clear k b3 bJ bK Jr Jb Jh o9 r9 z;rcases h with rfl | ⟨rfl, h5, h6⟩
 · go_wp2_with fail
   refine H.out.mono ?_;rintro e w2 ⟨v, rfl, d, l⟩;have c := QK d j.size;rw [LK] at d c;have s := Lh (j.trans (l.mono j.size));obtain ⟨A3, c3, rfl⟩ := Zl d;have u := Lh c;clear d c l j H;go_wp2_with fail
   go_ret
   exact ⟨_, rfl, by rw [LK]; exact u.out, s.out⟩
 · go_wp2_with fail
   refine H.out.mono ?_;rintro e w2 ⟨v, rfl, d, l⟩;have c := QK d j.size;rw [LK] at d c;have s := Lh (j.trans (l.mono j.size));obtain ⟨A3, c3, rfl⟩ := Zl d;have u := Lh c;clear d c l j H;go_wp2_with fail
   go_ret
   exact ⟨_, rfl, by rw [LK]; exact u.out, s.out⟩
theorem AbY {P : Program} {o : Oper} {w w1 : World} {ρ : Operand → Value} {x lo : Operand} {t : TypeId} (ho : o.op = .slice t x (some lo) none none) {v : Value} (hv : (Instr.sliceAt t (ρ x) (some (ρ lo)) none none).run P w = .ok v w1) : (execOp ρ o).run P w = .ok (.value v) w1 := by
 simp only [execOp, ho, Np, Option.map_none, Sem.run_bind, hv, Result.andThen_ok, Sem.run_pure]
theorem AbX {P : Program} {o : Oper} {w w1 : World} {ρ : Operand → Value} {x hi : Operand} {t : TypeId} (ho : o.op = .slice t x none (some hi) none) {v : Value} (hv : (Instr.sliceAt t (ρ x) none (some (ρ hi)) none).run P w = .ok v w1) : (execOp ρ o).run P w = .ok (.value v) w1 := by
 simp only [execOp, ho, Np, Option.map_none, Sem.run_bind, hv, Result.andThen_ok, Sem.run_pure]
theorem AiE (W : World) (A : Option Addr) (n cap p : Nat) (h : p ≤ n) : (Instr.sliceAt 23 (.slice A n cap) (some (.int .i64 (p : Int))) none none).run Tryz.prog W = .ok (sliced A p n cap 2) W := by
 refine (run_sliceAt_slice (P := Tryz.prog) (w := W) 23 (.slice A n cap) (some (.int .i64 (p : Int))) none none (by kernel_rfl)).trans ?_;refine (run_slice_l (P := Tryz.prog) (w := W) 23 A n cap (by kernel_rfl) .i64 (p : Int) (by omega) (by omega)).trans ?_;rw [Lg, show (sizeOf (Tryz.prog.elem 23)).run Tryz.prog W = .ok 2 W from by kernel_rfl];rfl
theorem AiD (W : World) (A : Option Addr) (n cap q : Nat) (h : q ≤ cap) : (Instr.sliceAt 23 (.slice A n cap) none (some (.int .i64 (q : Int))) none).run Tryz.prog W = .ok (sliced A 0 q cap 2) W := by
 refine (run_sliceAt_slice (P := Tryz.prog) (w := W) 23 (.slice A n cap) none (some (.int .i64 (q : Int))) none (by kernel_rfl)).trans ?_;refine (run_slice_h (P := Tryz.prog) (w := W) 23 A n cap (by kernel_rfl) .i64 (q : Int) (by omega) (by omega)).trans ?_;rw [Lg, show (sizeOf (Tryz.prog.elem 23)).run Tryz.prog W = .ok 2 W from by kernel_rfl];rfl
theorem Afj {A : Option Addr} {l : List Nd} {p q cap : Nat} (hpq : p ≤ q) (hq : q ≤ l.length) (hc : l.length ≤ cap) (hA : A ≠ none) : ∃ X, sliced A p q cap 2 = .slice X (q - p) (cap - p) ∧ X ≠ none ∧ ∀ W : World, Rd W A (l.flatMap Nd.cells) → Rd W X (((l.take q).drop p).flatMap Nd.cells) := by
 by_cases b : cap = p
 · refine ⟨A, by simp [sliced, b], hA, fun W h => ?_⟩;rw [Ny (by rw [L4]; omega)];exact Rd.nil _ _
 · refine ⟨A.map (·.add (p * 2)), by simp [sliced, b], by simpa using hA, fun W h => ?_⟩;by_cases d : ((l.take q).drop p).flatMap Nd.cells = []
   · rw [d]; exact Rd.nil _ _
   · have e : l = l.take p ++ ((l.take q).drop p ++ l.drop q) := by
      have i : l.take q = l.take p ++ (l.take q).drop p := by
       have : (l.take q).take p = l.take p := by rw [NC, NJ hpq]
       rw [← this, LD]
      rw [← Lx, ← i, LD]
     have c : ((l.take p).flatMap Nd.cells).length = p * 2 := by rw [Z6, L4]; congr 1; omega
     obtain ⟨k, i, m⟩ := Rd.part h (p * 2) (((l.take q).drop p).flatMap Nd.cells) (fun j u g => by
      have n : l.flatMap Nd.cells = (l.take p).flatMap Nd.cells ++ (((l.take q).drop p).flatMap Nd.cells ++ (l.drop q).flatMap Nd.cells) := by
       conv => lhs; rw [e]
       rw [L2, L2]
      rw [n, Ls (by omega), c, Nv, Lw (Lb.1 g).1]
      exact g) d
     subst i;exact fun j u g => ⟨_, rfl, m j u g⟩
theorem Afp (A B : Option Addr) (cap c : Nat) (l g : List Nd) (q : Nat) (t : Tr) (w : World) (hat : At l q t) (hr : Rd w A (l.flatMap Nd.cells)) (hg : Rd w B (g.flatMap Nd.cells)) (hB : B = none → g = []) (hl : l.length ≤ 1000) (hgl : g.length ≤ 1000) (hlc : l.length ≤ cap) (hcm : cap ≤ maxLen) :
 Calls Tryz.prog 184 #[.slice A l.length cap, .int .i64 (q : Int), .slice B g.length c] w fun e w' => NdsR (l.take q ++ (g ++ l.drop (q + t.size))) w w' e := by
 have he := JW A cap l (q : Int) w hr hl;rw [hat.endZ] at he;have aa := hat.le;obtain ⟨ad, s, _⟩ := Z9 hr hat.root;have hA : A ≠ none := by rw [s]; simp
 obtain ⟨to, u⟩ : ∃ to, to = q + t.size := ⟨_, rfl⟩;rw [← u] at he ⊢;obtain ⟨X, hX, o, k⟩ := Afj (A := A) (l := l) (p := 0) (q := q) (cap := cap) (by omega) (by omega) hlc hA;obtain ⟨Y, hY, r, m⟩ := Afj (A := A) (l := l) (p := to) (q := l.length) (cap := cap) (by omega) (by omega) hlc hA;rw [L8] at k;rw [LO] at m;have y : q - 0 = (l.take q).length := by rw [L4]; omega
 have z : l.length - to = (l.drop to).length := by rw [LM]
 rw [y, Nat.sub_zero] at hX;rw [z] at hY;obtain ⟨S, d⟩ : ∃ S, S = (fun W => (Rd W A (l.flatMap Nd.cells) ∧ Rd W B (g.flatMap Nd.cells)) ∧ Below w.heap.size w W) := ⟨_, rfl⟩;have ab : St S := by rw [d]; infer_instance
 have T0 : Hid (∀ W, S W → Rd W A (l.flatMap Nd.cells)) := by show ∀ W, _; rw [d]; exact fun W h => h.1.1
 have T1 : Hid (∀ W, S W → Rd W B (g.flatMap Nd.cells)) := by show ∀ W, _; rw [d]; exact fun W h => h.1.2
 have T2 : Hid (∀ W, S W → Below w.heap.size w W) := by show ∀ W, _; rw [d]; exact fun W h => h.2
 have hS : S w := by rw [d]; exact ⟨⟨hr, hg⟩, Below.refl _ _⟩
 have He := Lh he;have HX := Lh (And.intro hX (And.intro o k));have HY := Lh (And.intro hY (And.intro r m));have Hn := Lh (And.intro (And.intro hl hgl) (And.intro (And.intro hlc hcm) (And.intro hB (show q ≤ l.length ∧ to ≤ l.length by omega))));have ae : 0 ≤ (to : Int) := by omega
 have ac : ¬ ((to : Int) < 0) := by omega
 clear d he hX o k hY r m y z s hat hr hg hB hl hgl hlc hcm aa u hA;go_enter Tryz.func184, Tryz.ntmps184
 go_wp2_with fail
 refine He.out.mono ?_;rintro e w1 ⟨rfl, b1⟩;replace hS := ab.go hS b1;clear He b1;go_wp2_with fail
 refine Zo S 7 (by kernel_rfl) (by kernel_rfl) (St.drew hS) ?_;clear hS;simp only [L0, LE, Ly, L8]
 iterate 2 (refine Qf rfl ?_ (fun W j => ?_) ?_; rotate_left; (focus (go_simp; exact rfl)); simp only [Act.put, Qa, Qb, Qc])
 (refine Qf rfl (.slice X (l.take q).length cap) (fun W j => by rw [← HX.out.1]; exact AbX rfl (AiD W A l.length cap q (by have := Hn.out; omega))) ?_; simp only [Act.put, Qa, Qb, Qc])
 iterate 3 (refine Qf rfl ?_ (fun W j => ?_) ?_; rotate_left; (focus (go_simp; exact rfl)); simp only [Act.put, Qa, Qb, Qc])
 (refine Qf rfl (.slice Y (l.drop to).length (cap - to)) (fun W j => by rw [← HY.out.1]; exact AbY rfl (AiE W A l.length cap to (by have := Hn.out; omega))) ?_; simp only [Act.put, Qa, Qb, Qc]);refine QG fun W j => ?_
 go_wp2_with (refine Zw _ _ _ rfl ?_)
 refine Stop.to ?_;refine Qy rfl 316 3 _ rfl 23 #[PtV.val ⟨X, cap, l.take q⟩, PtV.val ⟨B, c, g⟩, PtV.val ⟨Y, cap - to, l.drop to⟩] (fun W => by kernel_rfl) ?_;intro G w2 hG rG bG;have b2 := (T2.out W j).trans ((bG.mono hG).mono (T2.out W j).size);have bW := (Below.refl W.heap.size W).trans (bG.mono hG)
 have hj := Eu (some ⟨G, 0, none⟩) 3 3 [⟨X, cap, l.take q⟩, ⟨B, c, g⟩, ⟨Y, cap - to, l.drop to⟩] w2 rfl (JZ (cs := [PtV.val ⟨X, cap, l.take q⟩, PtV.val ⟨B, c, g⟩, PtV.val ⟨Y, cap - to, l.drop to⟩]) rG) (fun x hx => by
  simp only [Lv, L5, or_false] at hx
  rcases hx with rfl | rfl | rfl
  · exact ⟨(HX.out.2.2 W (T0.out W j)).go bW, fun e => absurd e HX.out.2.1⟩
  · exact ⟨(T1.out W j).go bW, Hn.out.2.2.1⟩
  · exact ⟨(HY.out.2.2 W (T0.out W j)).go bW, fun e => absurd e HY.out.2.1⟩) (by simp [Zg]; have := Hn.out; omega) (by omega)
 have Hj := Lh hj;have HB := Lh b2;clear hj b2 bW rG bG hG;go_wp2_with fail
 refine Hj.out.mono ?_;rintro e w3 ⟨v, rfl, b, b3⟩;rw [show Zg [⟨X, cap, l.take q⟩, ⟨B, c, g⟩, ⟨Y, cap - to, l.drop to⟩] = l.take q ++ (g ++ l.drop to) by simp [Zg]] at b;have b4 := HB.out.trans (b3.mono HB.out.size);have i := QK b HB.out.size;obtain ⟨n3, n⟩ : ∃ n3, n3 = (l.take q ++ (g ++ l.drop to)).length := ⟨_, rfl⟩;rw [← n] at i b;obtain ⟨A3, c3, rfl⟩ := Zl b;have HF := Lh i;have HN := Lh n;have H4 := Lh b4;clear b i n b3 b4 Hj HB;go_wp2_with fail
 go_ret
 exact ⟨_, rfl, by rw [← HN.out]; exact HF.out, H4.out⟩
theorem Kq {P : Program} (w : World) (dT sT ty elem : TypeId) (size g o dLen dCap : Nat) (a : Addr) (sLen sCap : Nat) (cur : Array Value) (t : TypeId) (cs : List Value)
 (hu : P.underlying dT = some (.slice elem)) (hs : (P.info? elem).map (·.size) = some size)
 (hg : Row w g t cur) (hn : cs.length = Nat.min sLen dLen * size)
 (hsrc : ∀ j v, cs[j]? = some v → w.cell? (a.add j) = some v) (hfit : o + cs.length ≤ cur.size) (h1 : ∀ v ∈ cs, v.oneCell' = true) :
 (Builtin.copy_ #[dT, sT] ty #[.slice (some ⟨g, o, none⟩) dLen dCap, .slice (some a) sLen sCap]).run P w =
  .ok (goInt (Nat.min sLen dLen)) (w.setRow g (ZI cur o cs)) := by
 have c := run_loadCells_list (P := P) w a cs hsrc;have b := run_storeCells_at P g o t cs 0 cur w hg (by simpa using hfit) h1;cases hq : P.info? elem with
 | none => simp [hq] at hs
 | some i =>
  have hi : i.size = size := by simpa [hq] using hs
  simp [Builtin.copy_, run_underlying hu, Builtin.lenOf, Builtin.firstCells, sizeOf, typeInfo, hq, hi, ← hn, c, b, ZI]
theorem Age {cur : Array Value} {l : List Nd} {n i cap : Nat} (y : Nd) (hl : l.length = n) (hc : cur.size = cap * 2) (hn : n + 1 ≤ cap) (hi : i ≤ n) (ht : cur.toList.take (n * 2) = l.flatMap Nd.cells) :
 (ZI (ZI cur ((i + 1) * 2) ((l.drop i).flatMap Nd.cells)) (i * 2) y.cells).toList.take ((n + 1) * 2) = (l.take i ++ y :: l.drop i).flatMap Nd.cells := by
 have d : (l.take i).flatMap Nd.cells = cur.toList.take (i * 2) := by
  have e : l.flatMap Nd.cells = (l.take i).flatMap Nd.cells ++ (l.drop i).flatMap Nd.cells := by rw [← L2, LD]
  have g : ((l.take i).flatMap Nd.cells).length = i * 2 := by rw [Z6, L4]; congr 1; omega
  have b := congrArg (List.take (i * 2)) (ht.trans e);rw [N1 g, NC, NJ (by omega)] at b;exact b.symm
 have m : ((l.drop i).flatMap Nd.cells).length = (n - i) * 2 := by rw [Z6, LM, hl]
 have c : y.cells.length = 2 := rfl;have k : cur.toList.length = cap * 2 := by rw [LT, hc]
 rw [L2, LC, d];unfold ZI;simp only [List.toList_toArray];have h : (cur.toList.take ((i + 1) * 2)).length = (i + 1) * 2 := by rw [L4]; omega
 have o : (cur.toList.take ((i + 1) * 2) ++ (l.drop i).flatMap Nd.cells ++ cur.toList.drop ((i + 1) * 2 + ((l.drop i).flatMap Nd.cells).length)).take (i * 2) = cur.toList.take (i * 2) := by
  rw [Lx, Nu (by omega), NC, NJ (by omega)]
 have p : (cur.toList.take ((i + 1) * 2) ++ (l.drop i).flatMap Nd.cells ++ cur.toList.drop ((i + 1) * 2 + ((l.drop i).flatMap Nd.cells).length)).drop (i * 2 + y.cells.length) = (l.drop i).flatMap Nd.cells ++ cur.toList.drop ((i + 1) * 2 + ((l.drop i).flatMap Nd.cells).length) := by
  rw [Lx];exact List.drop_left' (by rw [h, c]; omega)
 rw [o, p]
 have j : (cur.toList.take (i * 2) ++ y.cells ++ (l.drop i).flatMap Nd.cells).length = (n + 1) * 2 := by
  simp only [Le, L4, m, c]; omega
 rw [← Lx, N1 j, Lx]
end Go.Proofs.YtdcmppdhdcjpfaaGreat
