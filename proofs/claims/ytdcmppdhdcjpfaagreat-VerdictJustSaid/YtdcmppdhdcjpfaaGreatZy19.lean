/- Lemmas for VerdictJustP. -/
import Derived.Test.YtdcmppdhdcjpfaaGreatZy1
import Derived.Test.YtdcmppdhdcjpfaaGreatZy18
import Derived.Test.YtdcmppdhdcjpfaaGreatZy7
import Derived.Laws.CopyRow
set_option linter.unusedVariables false
set_option linter.unusedSimpArgs false
set_option maxRecDepth 100000
set_option maxHeartbeats 16000000
namespace Go.Proofs.YtdcmppdhdcjpfaaGreat
open Go.RowKit Go.Deep
def ZC (p : PgV) (q n : Int) : Array Value := #[.int .i64 p.params, .slice p.va p.V.length p.vcap, .slice p.ba p.body.length p.bcap, .int .i64 q, .int .i64 n]
theorem AdS {w : World} : (zeroValue 85).run Tryz.prog w = .ok (.agg #[.int .i64 0, .int .i64 0]) w := by kernel_rfl
theorem KS (p : PgV) (q : Nat) (n : Int) (x : Nd) (w : World) (hx : p.body[q]? = some x) (hok : p.ok w) :
 Calls Tryz.prog 182 #[.agg (ZC p q n)] w fun e w' => e = .returned (.agg #[.int .i64 x.tag, .int .i64 x.n]) ∧ Below w.heap.size w w' := by
 obtain ⟨pa, va, vc, V, ba, bc, body⟩ := p;obtain ⟨d, c, o⟩ := JP hok.brd hx;have c : ba = some d := c;subst c;have hx : body[q]? = some x := hx;have hq := (La.1 hx).1;have ab : (q : Int) < (body.length : Int) := by omega
 have y : Hid (∀ W, Below w.heap.size w W → ∀ j u, x.cells[j]? = some u → W.cell? ((d.add (q * 2)).add j) = some u) := fun W b => by
  obtain ⟨aa, e, o⟩ := JP (hok.go b).brd hx;injection e with e;subst e;exact o
 clear o hx hok hq;go_enter Tryz.func182, Tryz.ntmps182
 go_wp2_with (refine Qn _ _ rfl ?_)
 refine Stop.to ?_;refine Qe rfl 176 _ rfl (ZC ⟨pa, va, vc, V, some d, bc, body⟩ q n) rfl ?_;intro G Gw t k s;go_wp2_with (first | fail | (refine QH _ rfl ?_))
 refine Stop.to ?_;refine Qj rfl 85 rfl _ _ AdS rfl ?_;intro J Jw g Jr m;have r := k.below m (Lc k.lt g);have h := (Below.refl w.heap.size w).trans (s.mono t);have z := h.trans ((m.mono g).mono h.size);have hJ : w.heap.size ≤ J := Le h.size g;have c2 := r.cellv (i := 2) (v := .slice (some d) body.length bc) rfl;have c3 := r.cellv (i := 3) (v := .int .i64 q) rfl;have l := Lh (y.out _ z);clear k s m h t g r y;go_wp2_with (first | (refine QQ rfl 85 _ rfl (d.add (q * 2)) rfl x.cells _ l.out Tryz.underlying85 rfl (by kernel_rfl) ?_) | (refine Qs 85 _ _ rfl ?_))
 refine Stop.to ?_;refine Qk rfl 85 _ _ rfl J #[.int .i64 x.tag, .int .i64 x.n] rfl rfl 85 _ Jr (by kernel_rfl) rfl (by simp [Value.oneCell']) ?_;intro W9 r9 o9;go_wp2_with fail
 refine bodyPost_ret (results_cell_row Tryz.results182 _ _ J 85 _ (0, 0) _ rfl r9 Tryz.underlying85 rfl (by kernel_rfl)) rfl ?_;exact ⟨rfl, z.trans (o9.below hJ)⟩
theorem YG (a b : Int) (w : World) : (Instr.field 85 (.agg #[.int .i64 a, .int .i64 b]) 0).run Tryz.prog w = .ok (.int .i64 a) w := by kernel_rfl
theorem AaO (a b : Int) (w : World) : (Instr.field 85 (.agg #[.int .i64 a, .int .i64 b]) 1).run Tryz.prog w = .ok (.int .i64 b) w := by kernel_rfl
theorem AfO (p : PgV) (q : Nat) (n lo hi : Int) (x : Nd) (w : World) (hx : p.body[q]? = some x) (hok : p.ok w) (h1 : lo ≤ x.tag) (h2 : x.tag ≤ hi) (h3 : lo ≤ n) (h4 : n ≤ hi) :
 Calls Tryz.prog 245 #[.agg (ZC p q n), .int .i64 lo, .int .i64 hi] w fun e w' => e = .returned (.bool true) ∧ Below w.heap.size w w' := by
 have m : Hid (∀ W, Below w.heap.size w W → Calls Tryz.prog 182 #[.agg (ZC p q n)] W fun e w' => e = .returned (.agg #[.int .i64 x.tag, .int .i64 x.n]) ∧ Below W.heap.size W w') := fun W b => KS p q n x W hx (hok.go b);clear hx hok;have t := YG x.tag x.n;go_enter Tryz.func245, Tryz.ntmps245
 go_wp2_with (refine Qn _ _ rfl ?_)
 refine Stop.to ?_;refine Qe rfl 176 _ rfl (ZC p q n) rfl ?_;intro G r k d j;have g := (Below.refl w.heap.size w).trans (j.mono k);have l := Lh (m.out _ g);clear j k m;go_wp2_with (refine wpList_load_row rfl 176 _ rfl G rfl 176 (ZC p q n) (0, 0) _ d Tryz.underlying176 rfl (by kernel_rfl) ?_)
 refine l.out.mono ?_;rintro e u ⟨rfl, h⟩;have c := d.below h d.lt;have o := g.trans (h.mono g.size);have s := c.cellv (i := 4) (v := .int .i64 n) rfl;clear d c g h l;go_wp2_with fail
 go_ret
 exact ⟨rfl, o⟩
theorem AjW (W : World) : (Instr.buildSlice 23 0 #[]).run Tryz.prog W = .ok (.slice (some ⟨W.heap.size, 0, none⟩) 0 0) (W.alloc (.cells #[] 85)) := by kernel_rfl
theorem VV (A : Option Addr) (cap : Nat) (l : List Nd) (w : World) (hr : Rd w A (l.flatMap Nd.cells)) (hnil : A = none → l = []) (hl : l.length ≤ 100000) :
 Calls Tryz.prog 186 #[.slice A l.length cap] w fun e w' => NdsR l w w' e := by
 rcases A with _ | p
 · have r := hnil rfl;subst r;have k := fun W : World => Lib.run_eql_slice_nil (P := Tryz.prog) W 23 85 none 0 cap 0 0 Tryz.underlying23
   simp only [Option.isNone_none] at k;rw [show ([] : List Nd).length = 0 from rfl];go_enter Tryz.func186, Tryz.ntmps186
   go_wp2_with fail
   go_ret
   exact ⟨_, rfl, World.ownsRow_nil _ _ _ _, Below.refl _ _⟩
 · have o := Lh hr;have n := Lh hl;clear hr hl hnil;have k := fun W : World => Lib.run_eql_slice_nil (P := Tryz.prog) W 23 85 (some p) l.length cap 0 0 Tryz.underlying23
   simp only [Option.isNone_some] at k;go_enter Tryz.func186, Tryz.ntmps186
   go_wp2_with (refine Zw _ _ _ rfl ?_)
   refine Stop.to ?_;refine Zk rfl _ (QX [] rfl (AjW w)) ?_;have j := Row.new w 85 #[];have h := (Below.refl w.heap.size w).alloc (Nat.le_refl _) (.cells #[] 85);generalize w.alloc (.cells #[] 85) = w1 at j h ⊢;obtain ⟨u, v, d, c, i, _⟩ := ZZ (P := Tryz.prog) 23 85 (.agg #[.int .i64 0, .int .i64 0]) 2 16 Tryz.underlying23 Aby rfl (by decide) (by decide) (X2 (B := w.heap.size) (size := 2) (Nat.le_refl _) j) h.size (o.out.go h) (m := l.length) (cap := cap) (by rw [ZY]) (VE l) (by simp) (by have := n.out; omega);rw [LJ, Lo] at c;have q := QV h (X2 (B := w.heap.size) (size := 2) (Nat.le_refl _) j) i h.size (Nat.le_refl _);have g := Lh d;clear d i j;go_wp2_with (refine Uc ?_)
   refine Stop.to ?_;refine Zk rfl _ (Q1 rfl g.out) ?_;obtain ⟨s, t, rfl⟩ := Zi c;go_wp2
   go_ret
   exact ⟨_, rfl, c, q⟩
theorem AcH : ∀ {l : List Nd} {q : Nat} (y : Nd), q < l.length → (l.set q y).flatMap Nd.cells = (l.flatMap Nd.cells).take (q * 2) ++ (y.cells ++ (l.flatMap Nd.cells).drop (q * 2 + 2))
 | [], _, _, h => by simp at h
 | x :: l, 0, y, _ => by simp [Nd.cells]
 | x :: l, q + 1, y, h => by
  have ih := AcH (l := l) (q := q) y (by simpa using h)
  rw [List.set_cons_succ, LC, LC, ih]
  have e : (q + 1) * 2 = 2 + q * 2 := by omega
  have e2 : (q + 1) * 2 + 2 = 2 + (q * 2 + 2) := by omega
  have hx : x.cells.length = 2 := rfl
  have d1 : List.drop (2 + (q * 2 + 2)) (x.cells ++ l.flatMap Nd.cells) = List.drop (q * 2 + 2) (l.flatMap Nd.cells) := by rw [← Nn, List.drop_left' hx]
  have d2 : List.take (2 + q * 2) (x.cells ++ l.flatMap Nd.cells) = x.cells ++ (l.flatMap Nd.cells).take (q * 2) := by rw [List.take_add, Nz hx, List.drop_left' hx]
  rw [e2, d1, e, d2, Lz]
theorem AhP {W : World} {B n : Nat} {v : Value} {l : List Nd} (h : W.ownsRow B 85 2 v n (l.flatMap Nd.cells)) {q : Nat} (hq : q < n) :
 ∃ g cap cur, v = .slice (some ⟨g, 0, none⟩) n cap ∧ B ≤ g ∧ n ≤ cap ∧ Row W g 85 cur ∧ q * 2 + 2 ≤ cur.size ∧ ∀ (W' : World) (y : Nd), Row W' g 85 (ZL cur (q * 2) y.cells) → W'.ownsRow B 85 2 v n ((l.set q y).flatMap Nd.cells) := by
 obtain ⟨o, p⟩ := h;have t : l.length = n := by rw [ZY] at o; omega
 rcases p with ⟨_, h0⟩ | ⟨g, cap, cur, j, e, s, i, u, x, z⟩
 · omega
 refine ⟨g, cap, cur, j, e, i, s, by omega, fun W' y w => ⟨by rw [ZY, LM, t], .inr ⟨g, cap, _, j, e, w, i, u, ?_, ?_⟩⟩⟩
 · unfold ZL;have c : y.cells.length = 2 := rfl;simp only [Lj, Lf, L4, LO, LV, c];omega
 · have c : y.cells.length = 2 := rfl;have r : cur.toList.length = cap * 2 := by rw [LV, x]
   have d : (cur.toList.take (q * 2)).length = q * 2 := by rw [L4]; omega
   rw [AcH y (by omega), ← z];unfold ZL;rw [List.toList_toArray, c];have k : (cur.toList.take (n * 2)).take (q * 2) = cur.toList.take (q * 2) := by rw [NA, NH (by omega)]
   have m : (cur.toList.take (n * 2)).drop (q * 2 + 2) = (cur.toList.drop (q * 2 + 2)).take (n * 2 - (q * 2 + 2)) := by rw [List.drop_take]
   have t1 : (cur.toList.take (q * 2)).take (n * 2) = cur.toList.take (q * 2) := LH (by omega);have t2 : y.cells.take (n * 2 - q * 2) = y.cells := LH (by omega);rw [k, m, Lz, List.take_append, d, t1, List.take_append, t2, c, Nat.sub_sub]
theorem Acz (p : PgV) (q : Nat) (n : Int) (y : Nd) (w : World) (hq : q < p.body.length) (hbl : p.body.length ≤ 1000) (hok : p.ok w) :
 Calls Tryz.prog 183 #[.agg (ZC p q n), .agg #[.int .i64 y.tag, .int .i64 y.n]] w fun e w' => NdsR (p.body.set q y) w w' e := by
 have c := Lh hok;have Hq := Lh hq;have u := Lh hbl;have ac : (q : Int) < (p.body.length : Int) := by omega
 clear hok hbl hq;go_enter Tryz.func183, Tryz.ntmps183
 go_wp2_with (refine Qn _ _ rfl ?_)
 refine Stop.to ?_;refine Qe rfl 176 _ rfl (ZC p q n) rfl ?_;intro G Gw Gh t Gb;go_wp2_with (refine Qn _ _ rfl ?_)
 refine Stop.to ?_;refine Qe rfl 85 _ rfl #[.int .i64 y.tag, .int .i64 y.n] rfl ?_;intro J Jw z Jr x;have s := t.below x (Lc t.lt z);have b1 := (Below.refl w.heap.size w).trans (Gb.mono Gh);have l := b1.trans ((x.mono z).mono b1.size);have c2 := s.cellv (i := 2) (v := .slice p.ba p.body.length p.bcap) rfl;have j := Lh (VV p.ba p.bcap p.body Jw (c.out.go l).brd (fun e => Lx (by have h1 := c.out.blen; have h2 := c.out.bnil e; omega)) (by have := u.out; omega));clear Gb x b1 Gh z t c;go_wp2_with fail
 refine j.out.mono ?_;rintro e w1 ⟨v, rfl, d, r⟩;obtain ⟨g, aa, m, rfl, hb, hc, hr, hs, h⟩ := AhP d Hq.out;have o := s.below r s.lt;have ab := Jr.below r Jr.lt;have b4 := l.trans (r.mono l.size);have c3 := o.cellv (i := 3) (v := .int .i64 q) rfl;have k := Lh h;have hg : w.heap.size ≤ g := Le l.size hb;clear j d h s Jr c2 r o hb;go_wp2_with (first | (refine wpList_load_row rfl 85 _ rfl J rfl 85 #[.int .i64 y.tag, .int .i64 y.n] (0, 0) _ ab Tryz.underlying85 rfl (by kernel_rfl) ?_) | (refine Qs 85 _ _ rfl ?_))
 refine Stop.to ?_;refine Qp rfl 85 _ _ rfl g (q * 2) (by first | rfl | simp [Addr.add]) (.agg #[.int .i64 y.tag, .int .i64 y.n]) rfl y.cells rfl 85 m _ hr (by kernel_rfl) (by show q * 2 + 2 ≤ m.size; exact hs) (by simp [Nd.cells, Value.oneCell']) rfl ?_
 intro W9 r9 o9;have HF : Hid (NdsR (p.body.set q y) w W9 (.returned (.slice (some ⟨g, 0, none⟩) p.body.length aa))) := ⟨_, rfl, by rw [LM]; exact QL (k.out W9 y r9) l.size, b4.trans (o9.below hg)⟩;go_wp2_with fail
 go_ret
 exact HF.out
theorem VZ (p : PgV) (q : Nat) (n lo hi : Int) (x : Nd) (w : World) (hx : p.body[q]? = some x) (hbl : p.body.length ≤ 1000) (hok : p.ok w) (h1 : lo ≤ x.tag) (h2 : x.tag ≤ hi) (h3 : lo ≤ n) (h4 : n ≤ hi) :
 Calls Tryz.prog 181 #[.agg (ZC p q n), .int .i64 lo, .int .i64 hi] w fun e w' => NdsR (p.body.set q ⟨n, x.n⟩) w w' e := by
 obtain ⟨S, j⟩ : ∃ G0 : Nat → World → Prop, G0 = (fun G W => Row W G 176 (ZC p q n) ∧ p.ok W ∧ Below w.heap.size w W) := ⟨_, rfl⟩;have l : ∀ G, St (S G) := by intro G; rw [j]; infer_instance
 have T0 : Hid (∀ G W, S G W → Row W G 176 (ZC p q n)) := by show ∀ G W, _; rw [j]; exact fun G W h => h.1
 have T1 : Hid (∀ G W, S G W → p.ok W) := by show ∀ G W, _; rw [j]; exact fun G W h => h.2.1
 have T2 : Hid (∀ G W, S G W → Below w.heap.size w W) := by show ∀ G W, _; rw [j]; exact fun G W h => h.2.2
 have s : Hid (∀ G W, Row W G 176 (ZC p q n) → Below w.heap.size w W → S G W) := by show ∀ G W, _; rw [j]; exact fun G W r b => ⟨r, hok.go b, b⟩
 have Hx := Lh hx;have z := Lh hbl;have t := Lh (And.intro (And.intro h1 h2) (And.intro h3 h4));have f1 := AaO x.tag x.n;clear j hok hx hbl h1 h2 h3 h4;go_enter Tryz.func181, Tryz.ntmps181
 go_wp2_with (refine Qn _ _ rfl ?_)
 refine Stop.to ?_;refine Qe rfl 176 _ rfl (ZC p q n) rfl ?_;intro G Gw Gh y Gb;have b1 := (Below.refl w.heap.size w).trans (Gb.mono Gh);have o := s.out G Gw y b1;replace l := l G;have m := Lh (AfO p q n lo hi x Gw Hx.out (T1.out G _ o) t.out.1.1 t.out.1.2 t.out.2.1 t.out.2.2);clear Gb Gh b1 s;go_wp2_with (refine wpList_load_row rfl 176 _ rfl G rfl 176 (ZC p q n) (0, 0) _ y Tryz.underlying176 rfl (by kernel_rfl) ?_)
 refine m.out.mono ?_;rintro e w1 ⟨rfl, b2⟩;replace o := l.go o b2;clear y m b2;go_wp2_with fail
 refine Zn (S G) 7 (by kernel_rfl) (by kernel_rfl) (St.drew o) ?_;clear o;simp only [Lw, L5, Lv, L1];(refine QA rfl 176 _ rfl (G) rfl 176 _ _ (T0.out G) Tryz.underlying176 rfl (by kernel_rfl) ?_; simp only [Act.put, Qa, Qb, Qc]);(refine Qg rfl ?_ (fun W k => ?_) ?_; rotate_left; (focus (go_simp; exact rfl)); simp only [Act.put, Qa, Qb, Qc]);(refine Qg rfl ?_ (fun W k => ?_) ?_; rotate_left; (focus (have c := (T0.out G W k).cellv (i := 4) (v := .int .i64 n) rfl; go_simp; exact rfl)); simp only [Act.put, Qa, Qb, Qc]);(refine QA rfl 176 _ rfl (G) rfl 176 _ _ (T0.out G) Tryz.underlying176 rfl (by kernel_rfl) ?_; simp only [Act.put, Qa, Qb, Qc]);(refine QI rfl 182 _ (fun W => by (go_simp; try rfl)) (.agg #[.int .i64 x.tag, .int .i64 x.n]) (fun W k => KS p q n x W Hx.out (T1.out G W k)) ?_; simp only [Act.put, Qa, Qb, Qc])
 (refine Qg rfl (.int .i64 x.n) (fun W k => EX rfl _ (AaO x.tag x.n W)) ?_; simp only [Act.put, Qa, Qb, Qc]);(refine Qg rfl ?_ (fun W k => ?_) ?_; rotate_left; (focus (go_simp; exact rfl)); simp only [Act.put, Qa, Qb, Qc]);refine QG fun W k => ?_
 have m := Lh (Acz p q n ⟨n, x.n⟩ W (La.1 Hx.out).1 z.out (T1.out G W k));go_wp2_with fail
 refine m.out.mono ?_;rintro e w2 ⟨v, rfl, g, b3⟩;have u := T2.out G W k;have d := QL g u.size;rw [LM] at g d;have HB := Lh (u.trans (b3.mono u.size));obtain ⟨A3, c3, rfl⟩ := Zi g;have HF := Lh d;clear g d b3 u m;go_wp2_with fail
 go_ret
 exact ⟨_, rfl, by rw [LM]; exact HF.out, HB.out⟩
theorem Ad0 (p : PgV) (q : Nat) (n : Int) (x : Nd) (w : World) (hx : p.body[q]? = some x) (hbl : p.body.length ≤ 1000) (hok : p.ok w) (h : (7 ≤ x.tag ∧ x.tag ≤ 11) ∧ 7 ≤ n ∧ n ≤ 11) :
 Calls Tryz.prog 109 #[.agg (ZC p q n)] w fun e w' => NdsR (p.body.set q ⟨n, x.n⟩) w w' e := by
 have l : Hid (∀ W, Below w.heap.size w W → Calls Tryz.prog 181 #[.agg (ZC p q n), .int .i64 7, .int .i64 11] W fun e w' => NdsR (p.body.set q ⟨n, x.n⟩) W w' e) := fun W b => VZ p q n 7 11 x W hx hbl (hok.go b) h.1.1 h.1.2 h.2.1 h.2.2;clear hx hbl hok h;go_enter Tryz.func109, Tryz.ntmps109
 go_wp2_with (refine Qn _ _ rfl ?_)
 refine Stop.to ?_;refine Qe rfl 176 _ rfl (ZC p q n) rfl ?_;intro G t j k i;have g := (Below.refl w.heap.size w).trans (i.mono j);have H := Lh (l.out _ g);clear l i j;go_wp2_with (refine wpList_load_row rfl 176 _ rfl G rfl 176 (ZC p q n) (0, 0) _ k Tryz.underlying176 rfl (by kernel_rfl) ?_)
 refine H.out.mono ?_;rintro e y ⟨v, rfl, d, m⟩;have c := QL d g.size;rw [LM] at d c;have o := Lh (g.trans (m.mono g.size));obtain ⟨s, u, rfl⟩ := Zi d;have r := Lh c;clear d c m g H k;go_wp2_with fail
 go_ret
 exact ⟨_, rfl, by rw [LM]; exact r.out, o.out⟩
theorem Ag4 (p : PgV) (q : Nat) (n : Int) (x : Nd) (w : World) (hx : p.body[q]? = some x) (hbl : p.body.length ≤ 1000) (hok : p.ok w) (h : (12 ≤ x.tag ∧ x.tag ≤ 17) ∧ 12 ≤ n ∧ n ≤ 17) :
 Calls Tryz.prog 110 #[.agg (ZC p q n)] w fun e w' => NdsR (p.body.set q ⟨n, x.n⟩) w w' e := by
 have l : Hid (∀ W, Below w.heap.size w W → Calls Tryz.prog 181 #[.agg (ZC p q n), .int .i64 12, .int .i64 17] W fun e w' => NdsR (p.body.set q ⟨n, x.n⟩) W w' e) := fun W b => VZ p q n 12 17 x W hx hbl (hok.go b) h.1.1 h.1.2 h.2.1 h.2.2;clear hx hbl hok h;go_enter Tryz.func110, Tryz.ntmps110
 go_wp2_with (refine Qn _ _ rfl ?_)
 refine Stop.to ?_;refine Qe rfl 176 _ rfl (ZC p q n) rfl ?_;intro G t j k i;have g := (Below.refl w.heap.size w).trans (i.mono j);have H := Lh (l.out _ g);clear l i j;go_wp2_with (refine wpList_load_row rfl 176 _ rfl G rfl 176 (ZC p q n) (0, 0) _ k Tryz.underlying176 rfl (by kernel_rfl) ?_)
 refine H.out.mono ?_;rintro e y ⟨v, rfl, d, m⟩;have c := QL d g.size;rw [LM] at d c;have o := Lh (g.trans (m.mono g.size));obtain ⟨s, u, rfl⟩ := Zi d;have r := Lh c;clear d c m g H k;go_wp2_with fail
 go_ret
 exact ⟨_, rfl, by rw [LM]; exact r.out, o.out⟩
theorem Aeb (p : PgV) (q : Nat) (n : Int) (x : Nd) (w : World) (hx : p.body[q]? = some x) (hbl : p.body.length ≤ 1000) (hok : p.ok w) (h : (18 ≤ x.tag ∧ x.tag ≤ 19) ∧ 18 ≤ n ∧ n ≤ 19) :
 Calls Tryz.prog 111 #[.agg (ZC p q n)] w fun e w' => NdsR (p.body.set q ⟨n, x.n⟩) w w' e := by
 have l : Hid (∀ W, Below w.heap.size w W → Calls Tryz.prog 181 #[.agg (ZC p q n), .int .i64 18, .int .i64 19] W fun e w' => NdsR (p.body.set q ⟨n, x.n⟩) W w' e) := fun W b => VZ p q n 18 19 x W hx hbl (hok.go b) h.1.1 h.1.2 h.2.1 h.2.2;clear hx hbl hok h;go_enter Tryz.func111, Tryz.ntmps111
 go_wp2_with (refine Qn _ _ rfl ?_)
 refine Stop.to ?_;refine Qe rfl 176 _ rfl (ZC p q n) rfl ?_;intro G t j k i;have g := (Below.refl w.heap.size w).trans (i.mono j);have H := Lh (l.out _ g);clear l i j;go_wp2_with (refine wpList_load_row rfl 176 _ rfl G rfl 176 (ZC p q n) (0, 0) _ k Tryz.underlying176 rfl (by kernel_rfl) ?_)
 refine H.out.mono ?_;rintro e y ⟨v, rfl, d, m⟩;have c := QL d g.size;rw [LM] at d c;have o := Lh (g.trans (m.mono g.size));obtain ⟨s, u, rfl⟩ := Zi d;have r := Lh c;clear d c m g H k;go_wp2_with fail
 go_ret
 exact ⟨_, rfl, by rw [LM]; exact r.out, o.out⟩
theorem Ad3 (p : PgV) (q : Nat) (n : Int) (x : Nd) (w : World) (hx : p.body[q]? = some x) (hbl : p.body.length ≤ 1000) (hok : p.ok w) (h : x.tag = 1 ∨ (x.tag = 2 ∧ 0 ≤ n ∧ n ≤ 1)) :
 Calls Tryz.prog 112 #[.agg (ZC p q n)] w fun e w' => NdsR (p.body.set q ⟨x.tag, n⟩) w w' e := by
 have y : Hid (∀ W, Below w.heap.size w W → Calls Tryz.prog 182 #[.agg (ZC p q n)] W fun e w' => e = .returned (.agg #[.int .i64 x.tag, .int .i64 x.n]) ∧ Below W.heap.size W w') := fun W b => KS p q n x W hx (hok.go b);have z : Hid (∀ W, Below w.heap.size w W → Calls Tryz.prog 183 #[.agg (ZC p q n), .agg #[.int .i64 x.tag, .int .i64 n]] W fun e w' => NdsR (p.body.set q ⟨x.tag, n⟩) W w' e) := fun W b => Acz p q n ⟨x.tag, n⟩ W (La.1 hx).1 hbl (hok.go b);obtain ⟨t, m⟩ := x;dsimp only at h y z;clear hx hok hbl;go_enter Tryz.func112, Tryz.ntmps112
 go_wp2_with (refine Qn _ _ rfl ?_)
 refine Stop.to ?_;refine Qe rfl 176 _ rfl (ZC p q n) rfl ?_;intro G Gw Gh o Gb;have r := (Below.refl w.heap.size w).trans (Gb.mono Gh);have Hc := Lh (y.out _ r);clear Gb Gh y;go_wp2_with (refine wpList_load_row rfl 176 _ rfl G rfl 176 (ZC p q n) (0, 0) _ o Tryz.underlying176 rfl (by kernel_rfl) ?_)
 refine Hc.out.mono ?_;rintro e w1 ⟨rfl, b2⟩;have k := o.below b2 o.lt;have b3 := r.trans (b2.mono r.size);clear o r b2 Hc;go_wp2_with (first | fail | (refine QH _ rfl ?_))
 refine Stop.to ?_;refine Qj rfl 85 rfl _ _ AdS rfl ?_;intro J Jw Jh Jr Jb;go_wp2_with (refine Qs 85 _ _ rfl ?_)
 refine Stop.to ?_;refine Qk rfl 85 _ _ rfl J #[.int .i64 t, .int .i64 m] rfl rfl 85 _ Jr (by kernel_rfl) rfl (by simp [Value.oneCell']) ?_;intro W9 r9 o9;have bJ := (Below.refl w1.heap.size w1).trans (Jb.mono Jh);have bK := bJ.trans (o9.below Jh);have g := k.below bK k.lt;have j := b3.trans (bK.mono b3.size);have c0 := r9.cellv (i := 0) (v := .int .i64 t) rfl;have c4 := g.cellv (i := 4) (v := .int .i64 n) rfl;have g0 := g.cellv (i := 0) (v := .int .i64 p.params) rfl;have g1 := g.cellv (i := 1) (v := .slice p.va p.V.length p.vcap) rfl;have g2 := g.cellv (i := 2) (v := .slice p.ba p.body.length p.bcap) rfl;have g3 := g.cellv (i := 3) (v := .int .i64 q) rfl;have H := Lh (z.out _ j);clear k b3 bJ bK Jr Jb Jh o9 r9 z;rcases h with rfl | ⟨rfl, h5, h6⟩
 · go_wp2_with fail
   refine H.out.mono ?_;rintro e w2 ⟨v, rfl, d, l⟩;have c := QL d j.size;rw [LM] at d c;have s := Lh (j.trans (l.mono j.size));obtain ⟨A3, c3, rfl⟩ := Zi d;have u := Lh c;clear d c l j H;go_wp2_with fail
   go_ret
   exact ⟨_, rfl, by rw [LM]; exact u.out, s.out⟩
 · go_wp2_with fail
   refine H.out.mono ?_;rintro e w2 ⟨v, rfl, d, l⟩;have c := QL d j.size;rw [LM] at d c;have s := Lh (j.trans (l.mono j.size));obtain ⟨A3, c3, rfl⟩ := Zi d;have u := Lh c;clear d c l j H;go_wp2_with fail
   go_ret
   exact ⟨_, rfl, by rw [LM]; exact u.out, s.out⟩
theorem AbT {P : Program} {o : Oper} {w w1 : World} {ρ : Operand → Value} {x lo : Operand} {t : TypeId} (ho : o.op = .slice t x (some lo) none none) {v : Value} (hv : (Instr.sliceAt t (ρ x) (some (ρ lo)) none none).run P w = .ok v w1) : (execOp ρ o).run P w = .ok (.value v) w1 := by
 simp only [execOp, ho, Ny, Option.map_none, Sem.run_bind, hv, Result.andThen_ok, Sem.run_pure]
theorem AbS {P : Program} {o : Oper} {w w1 : World} {ρ : Operand → Value} {x hi : Operand} {t : TypeId} (ho : o.op = .slice t x none (some hi) none) {v : Value} (hv : (Instr.sliceAt t (ρ x) none (some (ρ hi)) none).run P w = .ok v w1) : (execOp ρ o).run P w = .ok (.value v) w1 := by
 simp only [execOp, ho, Ny, Option.map_none, Sem.run_bind, hv, Result.andThen_ok, Sem.run_pure]
theorem Ajq (W : World) (A : Option Addr) (n cap p : Nat) (h : p ≤ n) : (Instr.sliceAt 23 (.slice A n cap) (some (.int .i64 (p : Int))) none none).run Tryz.prog W = .ok (sliced A p n cap 2) W := by
 refine (run_sliceAt_slice (P := Tryz.prog) (w := W) 23 (.slice A n cap) (some (.int .i64 (p : Int))) none none (by kernel_rfl)).trans ?_;refine (run_slice_l (P := Tryz.prog) (w := W) 23 A n cap (by kernel_rfl) .i64 (p : Int) (by omega) (by omega)).trans ?_;rw [Li, show (sizeOf (Tryz.prog.elem 23)).run Tryz.prog W = .ok 2 W from by kernel_rfl];rfl
theorem Ajp (W : World) (A : Option Addr) (n cap q : Nat) (h : q ≤ cap) : (Instr.sliceAt 23 (.slice A n cap) none (some (.int .i64 (q : Int))) none).run Tryz.prog W = .ok (sliced A 0 q cap 2) W := by
 refine (run_sliceAt_slice (P := Tryz.prog) (w := W) 23 (.slice A n cap) none (some (.int .i64 (q : Int))) none (by kernel_rfl)).trans ?_;refine (run_slice_h (P := Tryz.prog) (w := W) 23 A n cap (by kernel_rfl) .i64 (q : Int) (by omega) (by omega)).trans ?_;rw [Li, show (sizeOf (Tryz.prog.elem 23)).run Tryz.prog W = .ok 2 W from by kernel_rfl];rfl
theorem Afs {A : Option Addr} {l : List Nd} {p q cap : Nat} (hpq : p ≤ q) (hq : q ≤ l.length) (hc : l.length ≤ cap) (hA : A ≠ none) : ∃ X, sliced A p q cap 2 = .slice X (q - p) (cap - p) ∧ X ≠ none ∧ ∀ W : World, Rd W A (l.flatMap Nd.cells) → Rd W X (((l.take q).drop p).flatMap Nd.cells) := by
 by_cases c : cap = p
 · refine ⟨A, by simp [sliced, c], hA, fun W h => ?_⟩;rw [N4 (by rw [L4]; omega)];exact Rd.nil _ _
 · refine ⟨A.map (·.add (p * 2)), by simp [sliced, c], by simpa using hA, fun W h => ?_⟩;by_cases g : ((l.take q).drop p).flatMap Nd.cells = []
   · rw [g]; exact Rd.nil _ _
   · have e : l = l.take p ++ ((l.take q).drop p ++ l.drop q) := by
      have k : l.take q = l.take p ++ (l.take q).drop p := by
       have : (l.take q).take p = l.take p := by rw [NA, NH hpq]
       rw [← this, LD]
      rw [← Lz, ← k, LD]
     have d : ((l.take p).flatMap Nd.cells).length = p * 2 := by rw [ZY, L4]; congr 1; omega
     obtain ⟨m, k, n⟩ := Rd.part h (p * 2) (((l.take q).drop p).flatMap Nd.cells) (fun j u i => by
      have o : l.flatMap Nd.cells = (l.take p).flatMap Nd.cells ++ (((l.take q).drop p).flatMap Nd.cells ++ (l.drop q).flatMap Nd.cells) := by
       conv => lhs; rw [e]
       rw [L6, L6]
      rw [o, Lu (by omega), d, Ns, Ly (La.1 i).1]
      exact i) g
     subst k;exact fun j u i => ⟨_, rfl, n j u i⟩
theorem Afy (A B : Option Addr) (cap c : Nat) (l g : List Nd) (q : Nat) (t : Tr) (w : World) (hat : At l q t) (hr : Rd w A (l.flatMap Nd.cells)) (hg : Rd w B (g.flatMap Nd.cells)) (hB : B = none → g = []) (hl : l.length ≤ 1000) (hgl : g.length ≤ 1000) (hlc : l.length ≤ cap) (hcm : cap ≤ maxLen) :
 Calls Tryz.prog 184 #[.slice A l.length cap, .int .i64 (q : Int), .slice B g.length c] w fun e w' => NdsR (l.take q ++ (g ++ l.drop (q + t.size))) w w' e := by
 have he := Jq A cap l (q : Int) w hr hl;rw [hat.endZ] at he;have ab := hat.le;obtain ⟨ad, u, _⟩ := JP hr hat.root;have hA : A ≠ none := by rw [u]; simp
 obtain ⟨to, y⟩ : ∃ to, to = q + t.size := ⟨_, rfl⟩;rw [← y] at he ⊢;obtain ⟨X, hX, r, m⟩ := Afs (A := A) (l := l) (p := 0) (q := q) (cap := cap) (by omega) (by omega) hlc hA;obtain ⟨Y, hY, s, n⟩ := Afs (A := A) (l := l) (p := to) (q := l.length) (cap := cap) (by omega) (by omega) hlc hA;rw [L1] at m;rw [LS] at n;have z : q - 0 = (l.take q).length := by rw [L4]; omega
 have aa : l.length - to = (l.drop to).length := by rw [LO]
 rw [z, Nat.sub_zero] at hX;rw [aa] at hY;obtain ⟨S, i⟩ : ∃ S, S = (fun W => (Rd W A (l.flatMap Nd.cells) ∧ Rd W B (g.flatMap Nd.cells)) ∧ Below w.heap.size w W) := ⟨_, rfl⟩;have ac : St S := by rw [i]; infer_instance
 have T0 : Hid (∀ W, S W → Rd W A (l.flatMap Nd.cells)) := by show ∀ W, _; rw [i]; exact fun W h => h.1.1
 have T1 : Hid (∀ W, S W → Rd W B (g.flatMap Nd.cells)) := by show ∀ W, _; rw [i]; exact fun W h => h.1.2
 have T2 : Hid (∀ W, S W → Below w.heap.size w W) := by show ∀ W, _; rw [i]; exact fun W h => h.2
 have hS : S w := by rw [i]; exact ⟨⟨hr, hg⟩, Below.refl _ _⟩
 have He := Lh he;have HX := Lh (And.intro hX (And.intro r m));have HY := Lh (And.intro hY (And.intro s n));have Hn := Lh (And.intro (And.intro hl hgl) (And.intro (And.intro hlc hcm) (And.intro hB (show q ≤ l.length ∧ to ≤ l.length by omega))));have af : 0 ≤ (to : Int) := by omega
 have ae : ¬ ((to : Int) < 0) := by omega
 clear i he hX r m hY s n z aa u hat hr hg hB hl hgl hlc hcm ab y hA;go_enter Tryz.func184, Tryz.ntmps184
 go_wp2_with fail
 refine He.out.mono ?_;rintro e w1 ⟨rfl, b1⟩;replace hS := ac.go hS b1;clear He b1;go_wp2_with fail
 refine Zn S 7 (by kernel_rfl) (by kernel_rfl) (St.drew hS) ?_;clear hS;simp only [Lw, L5, Lv, L1]
 iterate 2 (refine Qg rfl ?_ (fun W k => ?_) ?_; rotate_left; (focus (go_simp; exact rfl)); simp only [Act.put, Qa, Qb, Qc])
 (refine Qg rfl (.slice X (l.take q).length cap) (fun W k => by rw [← HX.out.1]; exact AbS rfl (Ajp W A l.length cap q (by have := Hn.out; omega))) ?_; simp only [Act.put, Qa, Qb, Qc])
 iterate 3 (refine Qg rfl ?_ (fun W k => ?_) ?_; rotate_left; (focus (go_simp; exact rfl)); simp only [Act.put, Qa, Qb, Qc])
 (refine Qg rfl (.slice Y (l.drop to).length (cap - to)) (fun W k => by rw [← HY.out.1]; exact AbT rfl (Ajq W A l.length cap to (by have := Hn.out; omega))) ?_; simp only [Act.put, Qa, Qb, Qc]);refine QG fun W k => ?_
 go_wp2_with (refine Zw _ _ _ rfl ?_)
 refine Stop.to ?_;refine Qv rfl 316 3 _ rfl 23 #[PtV.val ⟨X, cap, l.take q⟩, PtV.val ⟨B, c, g⟩, PtV.val ⟨Y, cap - to, l.drop to⟩] (fun W => by kernel_rfl) ?_;intro G w2 hG rG bG;have b2 := (T2.out W k).trans ((bG.mono hG).mono (T2.out W k).size);have bW := (Below.refl W.heap.size W).trans (bG.mono hG)
 have hj := Eo (some ⟨G, 0, none⟩) 3 3 [⟨X, cap, l.take q⟩, ⟨B, c, g⟩, ⟨Y, cap - to, l.drop to⟩] w2 rfl (Kz (cs := [PtV.val ⟨X, cap, l.take q⟩, PtV.val ⟨B, c, g⟩, PtV.val ⟨Y, cap - to, l.drop to⟩]) rG) (fun x hx => by
  simp only [Lt, L0, or_false] at hx
  rcases hx with rfl | rfl | rfl
  · exact ⟨(HX.out.2.2 W (T0.out W k)).go bW, fun e => absurd e HX.out.2.1⟩
  · exact ⟨(T1.out W k).go bW, Hn.out.2.2.1⟩
  · exact ⟨(HY.out.2.2 W (T0.out W k)).go bW, fun e => absurd e HY.out.2.1⟩) (by simp [Za]; have := Hn.out; omega) (by omega)
 have Hj := Lh hj;have HB := Lh b2;clear hj b2 bW rG bG hG;go_wp2_with fail
 refine Hj.out.mono ?_;rintro e w3 ⟨v, rfl, d, b3⟩;rw [show Za [⟨X, cap, l.take q⟩, ⟨B, c, g⟩, ⟨Y, cap - to, l.drop to⟩] = l.take q ++ (g ++ l.drop to) by simp [Za]] at d;have b4 := HB.out.trans (b3.mono HB.out.size);have j := QL d HB.out.size;obtain ⟨n3, o⟩ : ∃ n3, n3 = (l.take q ++ (g ++ l.drop to)).length := ⟨_, rfl⟩;rw [← o] at j d;obtain ⟨A3, c3, rfl⟩ := Zi d;have HF := Lh j;have HN := Lh o;have H4 := Lh b4;clear d j o b3 b4 Hj HB;go_wp2_with fail
 go_ret
 exact ⟨_, rfl, by rw [← HN.out]; exact HF.out, H4.out⟩
theorem KB {P : Program} (w : World) (dT sT ty elem : TypeId) (size g o dLen dCap : Nat) (a : Addr) (sLen sCap : Nat) (cur : Array Value) (t : TypeId) (cs : List Value)
 (hu : P.underlying dT = some (.slice elem)) (hs : (P.info? elem).map (·.size) = some size)
 (hg : Row w g t cur) (hn : cs.length = Nat.min sLen dLen * size)
 (hsrc : ∀ j v, cs[j]? = some v → w.cell? (a.add j) = some v) (hfit : o + cs.length ≤ cur.size) (h1 : ∀ v ∈ cs, v.oneCell' = true) :
 (Builtin.copy_ #[dT, sT] ty #[.slice (some ⟨g, o, none⟩) dLen dCap, .slice (some a) sLen sCap]).run P w =
  .ok (goInt (Nat.min sLen dLen)) (w.setRow g (ZL cur o cs)) := by
 have d := run_loadCells_list (P := P) w a cs hsrc;have c := run_storeCells_at P g o t cs 0 cur w hg (by simpa using hfit) h1;cases hq : P.info? elem with
 | none => simp [hq] at hs
 | some i =>
  have hi : i.size = size := by simpa [hq] using hs
  simp [Builtin.copy_, run_underlying hu, Builtin.lenOf, Builtin.firstCells, sizeOf, typeInfo, hq, hi, ← hn, d, c, ZL]
theorem Agt {cur : Array Value} {l : List Nd} {n i cap : Nat} (y : Nd) (hl : l.length = n) (hc : cur.size = cap * 2) (hn : n + 1 ≤ cap) (hi : i ≤ n) (ht : cur.toList.take (n * 2) = l.flatMap Nd.cells) :
 (ZL (ZL cur ((i + 1) * 2) ((l.drop i).flatMap Nd.cells)) (i * 2) y.cells).toList.take ((n + 1) * 2) = (l.take i ++ y :: l.drop i).flatMap Nd.cells := by
 have e : (l.take i).flatMap Nd.cells = cur.toList.take (i * 2) := by
  have g : l.flatMap Nd.cells = (l.take i).flatMap Nd.cells ++ (l.drop i).flatMap Nd.cells := by rw [← L6, LD]
  have h : ((l.take i).flatMap Nd.cells).length = i * 2 := by rw [ZY, L4]; congr 1; omega
  have c := congrArg (List.take (i * 2)) (ht.trans g);rw [Nz h, NA, NH (by omega)] at c;exact c.symm
 have o : ((l.drop i).flatMap Nd.cells).length = (n - i) * 2 := by rw [ZY, LO, hl]
 have d : y.cells.length = 2 := rfl;have m : cur.toList.length = cap * 2 := by rw [LV, hc]
 rw [L6, LC, e];unfold ZL;simp only [List.toList_toArray];have j : (cur.toList.take ((i + 1) * 2)).length = (i + 1) * 2 := by rw [L4]; omega
 have p : (cur.toList.take ((i + 1) * 2) ++ (l.drop i).flatMap Nd.cells ++ cur.toList.drop ((i + 1) * 2 + ((l.drop i).flatMap Nd.cells).length)).take (i * 2) = cur.toList.take (i * 2) := by
  rw [Lz, Nq (by omega), NA, NH (by omega)]
 have q : (cur.toList.take ((i + 1) * 2) ++ (l.drop i).flatMap Nd.cells ++ cur.toList.drop ((i + 1) * 2 + ((l.drop i).flatMap Nd.cells).length)).drop (i * 2 + y.cells.length) = (l.drop i).flatMap Nd.cells ++ cur.toList.drop ((i + 1) * 2 + ((l.drop i).flatMap Nd.cells).length) := by
  rw [Lz];exact List.drop_left' (by rw [j, d]; omega)
 rw [p, q]
 have k : (cur.toList.take (i * 2) ++ y.cells ++ (l.drop i).flatMap Nd.cells).length = (n + 1) * 2 := by
  simp only [Lf, L4, o, d]; omega
 rw [← Lz, Nz k, Lz]
end Go.Proofs.YtdcmppdhdcjpfaaGreat
