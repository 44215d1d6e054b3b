/- Lemmas for RunnerJustP. -/
import Derived.Test.YtkoikjnlpifbjaaGreatZb1
import Derived.Test.YtkoikjnlpifbjaaGreatZb21
import Derived.Test.YtkoikjnlpifbjaaGreatZb6
import Derived.Laws.CopyRow
import Derived.Lib.Overlaps
set_option linter.unusedVariables false
set_option linter.unusedSimpArgs false
set_option maxRecDepth 100000
set_option maxHeartbeats 16000000
namespace Go.Proofs.YtkoikjnlpifbjaaGreat
open Go.RowKit Go.Deep
theorem Em (p : PgV) (q : Nat) (n lo hi : Int) (x : Nd) (w : World) (hx : p.body[q]? = some x) (hbl : p.body.length ≤ 1000) (hok : p.ok w) (h1 : lo ≤ x.tag) (h2 : x.tag ≤ hi) (h3 : lo ≤ n) (h4 : n ≤ hi) :
 Calls Tryz.prog 127 #[.agg (ZH p q n), .int .i64 lo, .int .i64 hi] w fun e w' => NdsR (p.body.set q ⟨n, x.n⟩) w w' e := by
 obtain ⟨S, j⟩ : ∃ G0 : Nat → World → Prop, G0 = (fun G W => Row W G 148 (ZH p q n) ∧ p.ok W ∧ Below w.heap.size w W) := ⟨_, rfl⟩;have l : ∀ G, St (S G) := by intro G; rw [j]; infer_instance
 have T0 : Hid (∀ G W, S G W → Row W G 148 (ZH p q n)) := by show ∀ G W, _; rw [j]; exact fun G W h => h.1
 have T1 : Hid (∀ G W, S G W → p.ok W) := by show ∀ G W, _; rw [j]; exact fun G W h => h.2.1
 have T2 : Hid (∀ G W, S G W → Below w.heap.size w W) := by show ∀ G W, _; rw [j]; exact fun G W h => h.2.2
 have s : Hid (∀ G W, Row W G 148 (ZH p q n) → Below w.heap.size w W → S G W) := by show ∀ G W, _; rw [j]; exact fun G W r b => ⟨r, hok.go b, b⟩
 have Hx := Lv hx;have z := Lv hbl;have t := Lv (And.intro (And.intro h1 h2) (And.intro h3 h4));have f1 := Aa3 x.tag x.n;clear j hok hx hbl h1 h2 h3 h4;go_enter Tryz.func127, Tryz.ntmps127
 go_wp2_with (refine Qm _ _ rfl ?_)
 refine Stop.to ?_;refine Qe rfl 148 _ rfl (ZH p q n) rfl ?_;intro G Gw Gh y Gb;have b1 := (Below.refl w.heap.size w).trans (Gb.mono Gh);have o := s.out G Gw y b1;replace l := l G;have m := Lv (Af4 p q n lo hi x Gw Hx.out (T1.out G _ o) t.out.1.1 t.out.1.2 t.out.2.1 t.out.2.2);clear Gb Gh b1 s;go_wp2_with (refine wpList_load_row rfl 148 _ rfl G rfl 148 (ZH p q n) (0, 0) _ y Tryz.underlying148 rfl (by kernel_rfl) ?_)
 refine m.out.mono ?_;rintro e w1 ⟨rfl, b2⟩;replace o := l.go o b2;clear y m b2;go_wp2_with fail
 refine ZA (S G) 7 (by kernel_rfl) (by kernel_rfl) (St.drew o) ?_;clear o;simp only [LF, LP, LE, LL];(refine Zd rfl 148 _ rfl (G) rfl 148 _ _ (T0.out G) Tryz.underlying148 rfl (by kernel_rfl) ?_; simp only [Act.put, Qa, Qb, Qc]);(refine Qg rfl ?_ (fun W k => ?_) ?_; rotate_left; (focus (go_simp; exact rfl)); simp only [Act.put, Qa, Qb, Qc]);(refine Qg rfl ?_ (fun W k => ?_) ?_; rotate_left; (focus (have c := (T0.out G W k).cellv (i := 4) (v := .int .i64 n) rfl; go_simp; exact rfl)); simp only [Act.put, Qa, Qb, Qc]);(refine Zd rfl 148 _ rfl (G) rfl 148 _ _ (T0.out G) Tryz.underlying148 rfl (by kernel_rfl) ?_; simp only [Act.put, Qa, Qb, Qc]);(refine QG rfl 128 _ (fun W => by (go_simp; try rfl)) (.agg #[.int .i64 x.tag, .int .i64 x.n]) (fun W k => KT p q n x W Hx.out (T1.out G W k)) ?_; simp only [Act.put, Qa, Qb, Qc])
 (refine Qg rfl (.int .i64 x.n) (fun W k => E9 rfl _ (Aa3 x.tag x.n W)) ?_; simp only [Act.put, Qa, Qb, Qc]);(refine Qg rfl ?_ (fun W k => ?_) ?_; rotate_left; (focus (go_simp; exact rfl)); simp only [Act.put, Qa, Qb, Qc]);refine QS fun W k => ?_
 have m := Lv (AcS p q n ⟨n, x.n⟩ W (Ld.1 Hx.out).1 z.out (T1.out G W k));go_wp2_with fail
 refine m.out.mono ?_;rintro e w2 ⟨v, rfl, g, b3⟩;have u := T2.out G W k;have d := QQ g u.size;rw [LS] at g d;have HB := Lv (u.trans (b3.mono u.size));obtain ⟨A3, c3, rfl⟩ := Zj g;have HF := Lv d;clear g d b3 u m;go_wp2_with fail
 go_ret
 exact ⟨_, rfl, by rw [LS]; exact HF.out, HB.out⟩
theorem Aej (p : PgV) (q : Nat) (n : Int) (x : Nd) (w : World) (hx : p.body[q]? = some x) (hbl : p.body.length ≤ 1000) (hok : p.ok w) (h : (7 ≤ x.tag ∧ x.tag ≤ 11) ∧ 7 ≤ n ∧ n ≤ 11) :
 Calls Tryz.prog 87 #[.agg (ZH p q n)] w fun e w' => NdsR (p.body.set q ⟨n, x.n⟩) w w' e := by
 have l : Hid (∀ W, Below w.heap.size w W → Calls Tryz.prog 127 #[.agg (ZH p q n), .int .i64 7, .int .i64 11] W fun e w' => NdsR (p.body.set q ⟨n, x.n⟩) W w' e) := fun W b => Em p q n 7 11 x W hx hbl (hok.go b) h.1.1 h.1.2 h.2.1 h.2.2;clear hx hbl hok h;go_enter Tryz.func87, Tryz.ntmps87
 go_wp2_with (refine Qm _ _ rfl ?_)
 refine Stop.to ?_;refine Qe rfl 148 _ rfl (ZH p q n) rfl ?_;intro G u j k i;have g := (Below.refl w.heap.size w).trans (i.mono j);have H := Lv (l.out _ g);clear l i j;go_wp2_with (refine wpList_load_row rfl 148 _ rfl G rfl 148 (ZH p q n) (0, 0) _ k Tryz.underlying148 rfl (by kernel_rfl) ?_)
 refine H.out.mono ?_;rintro e z ⟨v, rfl, d, m⟩;have c := QQ d g.size;rw [LS] at d c;have o := Lv (g.trans (m.mono g.size));obtain ⟨t, y, rfl⟩ := Zj d;have s := Lv c;clear d c m g H k;go_wp2_with fail
 go_ret
 exact ⟨_, rfl, by rw [LS]; exact s.out, o.out⟩
theorem Aho (p : PgV) (q : Nat) (n : Int) (x : Nd) (w : World) (hx : p.body[q]? = some x) (hbl : p.body.length ≤ 1000) (hok : p.ok w) (h : (12 ≤ x.tag ∧ x.tag ≤ 17) ∧ 12 ≤ n ∧ n ≤ 17) :
 Calls Tryz.prog 88 #[.agg (ZH p q n)] w fun e w' => NdsR (p.body.set q ⟨n, x.n⟩) w w' e := by
 have l : Hid (∀ W, Below w.heap.size w W → Calls Tryz.prog 127 #[.agg (ZH p q n), .int .i64 12, .int .i64 17] W fun e w' => NdsR (p.body.set q ⟨n, x.n⟩) W w' e) := fun W b => Em p q n 12 17 x W hx hbl (hok.go b) h.1.1 h.1.2 h.2.1 h.2.2;clear hx hbl hok h;go_enter Tryz.func88, Tryz.ntmps88
 go_wp2_with (refine Qm _ _ rfl ?_)
 refine Stop.to ?_;refine Qe rfl 148 _ rfl (ZH p q n) rfl ?_;intro G u j k i;have g := (Below.refl w.heap.size w).trans (i.mono j);have H := Lv (l.out _ g);clear l i j;go_wp2_with (refine wpList_load_row rfl 148 _ rfl G rfl 148 (ZH p q n) (0, 0) _ k Tryz.underlying148 rfl (by kernel_rfl) ?_)
 refine H.out.mono ?_;rintro e z ⟨v, rfl, d, m⟩;have c := QQ d g.size;rw [LS] at d c;have o := Lv (g.trans (m.mono g.size));obtain ⟨t, y, rfl⟩ := Zj d;have s := Lv c;clear d c m g H k;go_wp2_with fail
 go_ret
 exact ⟨_, rfl, by rw [LS]; exact s.out, o.out⟩
theorem Aer (p : PgV) (q : Nat) (n : Int) (x : Nd) (w : World) (hx : p.body[q]? = some x) (hbl : p.body.length ≤ 1000) (hok : p.ok w) (h : (18 ≤ x.tag ∧ x.tag ≤ 19) ∧ 18 ≤ n ∧ n ≤ 19) :
 Calls Tryz.prog 89 #[.agg (ZH p q n)] w fun e w' => NdsR (p.body.set q ⟨n, x.n⟩) w w' e := by
 have l : Hid (∀ W, Below w.heap.size w W → Calls Tryz.prog 127 #[.agg (ZH p q n), .int .i64 18, .int .i64 19] W fun e w' => NdsR (p.body.set q ⟨n, x.n⟩) W w' e) := fun W b => Em p q n 18 19 x W hx hbl (hok.go b) h.1.1 h.1.2 h.2.1 h.2.2;clear hx hbl hok h;go_enter Tryz.func89, Tryz.ntmps89
 go_wp2_with (refine Qm _ _ rfl ?_)
 refine Stop.to ?_;refine Qe rfl 148 _ rfl (ZH p q n) rfl ?_;intro G u j k i;have g := (Below.refl w.heap.size w).trans (i.mono j);have H := Lv (l.out _ g);clear l i j;go_wp2_with (refine wpList_load_row rfl 148 _ rfl G rfl 148 (ZH p q n) (0, 0) _ k Tryz.underlying148 rfl (by kernel_rfl) ?_)
 refine H.out.mono ?_;rintro e z ⟨v, rfl, d, m⟩;have c := QQ d g.size;rw [LS] at d c;have o := Lv (g.trans (m.mono g.size));obtain ⟨t, y, rfl⟩ := Zj d;have s := Lv c;clear d c m g H k;go_wp2_with fail
 go_ret
 exact ⟨_, rfl, by rw [LS]; exact s.out, o.out⟩
theorem Aek (p : PgV) (q : Nat) (n : Int) (x : Nd) (w : World) (hx : p.body[q]? = some x) (hbl : p.body.length ≤ 1000) (hok : p.ok w) (h : x.tag = 1 ∨ (x.tag = 2 ∧ 0 ≤ n ∧ n ≤ 1)) :
 Calls Tryz.prog 90 #[.agg (ZH p q n)] w fun e w' => NdsR (p.body.set q ⟨x.tag, n⟩) w w' e := by
 have z : Hid (∀ W, Below w.heap.size w W → Calls Tryz.prog 128 #[.agg (ZH p q n)] W fun e w' => e = .returned (.agg #[.int .i64 x.tag, .int .i64 x.n]) ∧ Below W.heap.size W w') := fun W b => KT p q n x W hx (hok.go b);have Hp : Hid (∀ W, Below w.heap.size w W → Calls Tryz.prog 129 #[.agg (ZH p q n), .agg #[.int .i64 x.tag, .int .i64 n]] W fun e w' => NdsR (p.body.set q ⟨x.tag, n⟩) W w' e) := fun W b => AcS p q n ⟨x.tag, n⟩ W (Ld.1 hx).1 hbl (hok.go b);obtain ⟨t, m⟩ := x;dsimp only at h z Hp;clear hx hok hbl;go_enter Tryz.func90, Tryz.ntmps90
 go_wp2_with (refine Qm _ _ rfl ?_)
 refine Stop.to ?_;refine Qe rfl 148 _ rfl (ZH p q n) rfl ?_;intro G Gw Gh o Gb;have s := (Below.refl w.heap.size w).trans (Gb.mono Gh);have Hc := Lv (z.out _ s);clear Gb Gh z;go_wp2_with (refine wpList_load_row rfl 148 _ rfl G rfl 148 (ZH p q n) (0, 0) _ o Tryz.underlying148 rfl (by kernel_rfl) ?_)
 refine Hc.out.mono ?_;rintro e w1 ⟨rfl, b2⟩;have k := o.below b2 o.lt;have b3 := s.trans (b2.mono s.size);clear o s b2 Hc;go_wp2_with (first | fail | (refine QE _ rfl ?_))
 refine Stop.to ?_;refine Qi rfl 65 rfl _ _ Aec rfl ?_;intro J Jw Jh Jr Jb;go_wp2_with (refine Qp 65 _ _ rfl ?_)
 refine Stop.to ?_;refine Qk rfl 65 _ _ rfl J #[.int .i64 t, .int .i64 m] rfl rfl 65 _ Jr (by kernel_rfl) rfl (by simp [Value.oneCell']) ?_;intro W9 r9 o9;have bJ := (Below.refl w1.heap.size w1).trans (Jb.mono Jh);have bK := bJ.trans (o9.below Jh);have g := k.below bK k.lt;have j := b3.trans (bK.mono b3.size);have c0 := r9.cellv (i := 0) (v := .int .i64 t) rfl;have c4 := g.cellv (i := 4) (v := .int .i64 n) rfl;have g0 := g.cellv (i := 0) (v := .int .i64 p.params) rfl;have g1 := g.cellv (i := 1) (v := .slice p.va p.V.length p.vcap) rfl;have g2 := g.cellv (i := 2) (v := .slice p.ba p.body.length p.bcap) rfl;have g3 := g.cellv (i := 3) (v := .int .i64 q) rfl;have H := Lv (Hp.out _ j);clear k b3 bJ bK Jr Jb Jh o9 r9 Hp;rcases h with rfl | ⟨rfl, h5, h6⟩
 · go_wp2_with fail
   refine H.out.mono ?_;rintro e w2 ⟨v, rfl, d, l⟩;have c := QQ d j.size;rw [LS] at d c;have u := Lv (j.trans (l.mono j.size));obtain ⟨A3, c3, rfl⟩ := Zj d;have y := Lv c;clear d c l j H;go_wp2_with fail
   go_ret
   exact ⟨_, rfl, by rw [LS]; exact y.out, u.out⟩
 · go_wp2_with fail
   refine H.out.mono ?_;rintro e w2 ⟨v, rfl, d, l⟩;have c := QQ d j.size;rw [LS] at d c;have u := Lv (j.trans (l.mono j.size));obtain ⟨A3, c3, rfl⟩ := Zj d;have y := Lv c;clear d c l j H;go_wp2_with fail
   go_ret
   exact ⟨_, rfl, by rw [LS]; exact y.out, u.out⟩
theorem Ab7 {P : Program} {o : Oper} {w w1 : World} {ρ : Operand → Value} {x lo : Operand} {t : TypeId} (ho : o.op = .slice t x (some lo) none none) {v : Value} (hv : (Instr.sliceAt t (ρ x) (some (ρ lo)) none none).run P w = .ok v w1) : (execOp ρ o).run P w = .ok (.value v) w1 := by
 simp only [execOp, ho, Ns, Option.map_none, Sem.run_bind, hv, Result.andThen_ok, Sem.run_pure]
theorem Ab6 {P : Program} {o : Oper} {w w1 : World} {ρ : Operand → Value} {x hi : Operand} {t : TypeId} (ho : o.op = .slice t x none (some hi) none) {v : Value} (hv : (Instr.sliceAt t (ρ x) none (some (ρ hi)) none).run P w = .ok v w1) : (execOp ρ o).run P w = .ok (.value v) w1 := by
 simp only [execOp, ho, Ns, Option.map_none, Sem.run_bind, hv, Result.andThen_ok, Sem.run_pure]
theorem AjN (W : World) (A : Option Addr) (n cap p : Nat) (h : p ≤ n) : (Instr.sliceAt 23 (.slice A n cap) (some (.int .i64 (p : Int))) none none).run Tryz.prog W = .ok (sliced A p n cap 2) W := by
 refine (run_sliceAt_slice (P := Tryz.prog) (w := W) 23 (.slice A n cap) (some (.int .i64 (p : Int))) none none (by kernel_rfl)).trans ?_;refine (run_slice_l (P := Tryz.prog) (w := W) 23 A n cap (by kernel_rfl) .i64 (p : Int) (by omega) (by omega)).trans ?_;rw [L1, show (sizeOf (Tryz.prog.elem 23)).run Tryz.prog W = .ok 2 W from by kernel_rfl];rfl
theorem AjM (W : World) (A : Option Addr) (n cap q : Nat) (h : q ≤ cap) : (Instr.sliceAt 23 (.slice A n cap) none (some (.int .i64 (q : Int))) none).run Tryz.prog W = .ok (sliced A 0 q cap 2) W := by
 refine (run_sliceAt_slice (P := Tryz.prog) (w := W) 23 (.slice A n cap) none (some (.int .i64 (q : Int))) none (by kernel_rfl)).trans ?_;refine (run_slice_h (P := Tryz.prog) (w := W) 23 A n cap (by kernel_rfl) .i64 (q : Int) (by omega) (by omega)).trans ?_;rw [L1, show (sizeOf (Tryz.prog.elem 23)).run Tryz.prog W = .ok 2 W from by kernel_rfl];rfl
theorem AfI {A : Option Addr} {l : List Nd} {p q cap : Nat} (hpq : p ≤ q) (hq : q ≤ l.length) (hc : l.length ≤ cap) (hA : A ≠ none) : ∃ X, sliced A p q cap 2 = .slice X (q - p) (cap - p) ∧ X ≠ none ∧ ∀ W : World, Rd W A (l.flatMap Nd.cells) → Rd W X (((l.take q).drop p).flatMap Nd.cells) := by
 by_cases b : cap = p
 · refine ⟨A, by simp [sliced, b], hA, fun W h => ?_⟩;rw [NE (by rw [L7]; omega)];exact Rd.nil _ _
 · refine ⟨A.map (·.add (p * 2)), by simp [sliced, b], by simpa using hA, fun W h => ?_⟩;by_cases d : ((l.take q).drop p).flatMap Nd.cells = []
   · rw [d]; exact Rd.nil _ _
   · have e : l = l.take p ++ ((l.take q).drop p ++ l.drop q) := by
      have i : l.take q = l.take p ++ (l.take q).drop p := by
       have : (l.take q).take p = l.take p := by rw [NL, NT hpq]
       rw [← this, LK]
      rw [← L4, ← i, LK]
     have c : ((l.take p).flatMap Nd.cells).length = p * 2 := by rw [Z5, L7]; congr 1; omega
     obtain ⟨k, i, m⟩ := Rd.part h (p * 2) (((l.take q).drop p).flatMap Nd.cells) (fun j u g => by
      have n : l.flatMap Nd.cells = (l.take p).flatMap Nd.cells ++ (((l.take q).drop p).flatMap Nd.cells ++ (l.drop q).flatMap Nd.cells) := by
       conv => lhs; rw [e]
       rw [LD, LD]
      rw [n, L8 (by omega), c, Ny, LC (Ld.1 g).1]
      exact g) d
     subst i;exact fun j u g => ⟨_, rfl, m j u g⟩
theorem AfP (A B : Option Addr) (cap c : Nat) (l g : List Nd) (q : Nat) (t : Tr) (w : World) (hat : At l q t) (hr : Rd w A (l.flatMap Nd.cells)) (hg : Rd w B (g.flatMap Nd.cells)) (hB : B = none → g = []) (hl : l.length ≤ 1000) (hgl : g.length ≤ 1000) (hlc : l.length ≤ cap) (hcm : cap ≤ maxLen) :
 Calls Tryz.prog 130 #[.slice A l.length cap, .int .i64 (q : Int), .slice B g.length c] w fun e w' => NdsR (l.take q ++ (g ++ l.drop (q + t.size))) w w' e := by
 have he := JV A cap l (q : Int) w hr hl;rw [hat.endZ] at he;have ab := hat.le;obtain ⟨ad, u, _⟩ := JW hr hat.root;have hA : A ≠ none := by rw [u]; simp
 obtain ⟨to, y⟩ : ∃ to, to = q + t.size := ⟨_, rfl⟩;rw [← y] at he ⊢;obtain ⟨X, hX, o, k⟩ := AfI (A := A) (l := l) (p := 0) (q := q) (cap := cap) (by omega) (by omega) hlc hA;obtain ⟨Y, hY, s, m⟩ := AfI (A := A) (l := l) (p := to) (q := l.length) (cap := cap) (by omega) (by omega) hlc hA;rw [LL] at k;rw [LW] at m;have z : q - 0 = (l.take q).length := by rw [L7]; omega
 have aa : l.length - to = (l.drop to).length := by rw [LU]
 rw [z, Nat.sub_zero] at hX;rw [aa] at hY;obtain ⟨S, d⟩ : ∃ S, S = (fun W => (Rd W A (l.flatMap Nd.cells) ∧ Rd W B (g.flatMap Nd.cells)) ∧ Below w.heap.size w W) := ⟨_, rfl⟩;have ac : St S := by rw [d]; infer_instance
 have T0 : Hid (∀ W, S W → Rd W A (l.flatMap Nd.cells)) := by show ∀ W, _; rw [d]; exact fun W h => h.1.1
 have T1 : Hid (∀ W, S W → Rd W B (g.flatMap Nd.cells)) := by show ∀ W, _; rw [d]; exact fun W h => h.1.2
 have T2 : Hid (∀ W, S W → Below w.heap.size w W) := by show ∀ W, _; rw [d]; exact fun W h => h.2
 have hS : S w := by rw [d]; exact ⟨⟨hr, hg⟩, Below.refl _ _⟩
 have He := Lv he;have HX := Lv (And.intro hX (And.intro o k));have HY := Lv (And.intro hY (And.intro s m));have Hn := Lv (And.intro (And.intro hl hgl) (And.intro (And.intro hlc hcm) (And.intro hB (show q ≤ l.length ∧ to ≤ l.length by omega))));have af : 0 ≤ (to : Int) := by omega
 have ae : ¬ ((to : Int) < 0) := by omega
 clear d he hX o k hY s m z aa u hat hr hg hB hl hgl hlc hcm ab y hA;go_enter Tryz.func130, Tryz.ntmps130
 go_wp2_with fail
 refine He.out.mono ?_;rintro e w1 ⟨rfl, b1⟩;replace hS := ac.go hS b1;clear He b1;go_wp2_with fail
 refine ZA S 7 (by kernel_rfl) (by kernel_rfl) (St.drew hS) ?_;clear hS;simp only [LF, LP, LE, LL]
 iterate 2 (refine Qg rfl ?_ (fun W j => ?_) ?_; rotate_left; (focus (go_simp; exact rfl)); simp only [Act.put, Qa, Qb, Qc])
 (refine Qg rfl (.slice X (l.take q).length cap) (fun W j => by rw [← HX.out.1]; exact Ab6 rfl (AjM W A l.length cap q (by have := Hn.out; omega))) ?_; simp only [Act.put, Qa, Qb, Qc])
 iterate 3 (refine Qg rfl ?_ (fun W j => ?_) ?_; rotate_left; (focus (go_simp; exact rfl)); simp only [Act.put, Qa, Qb, Qc])
 (refine Qg rfl (.slice Y (l.drop to).length (cap - to)) (fun W j => by rw [← HY.out.1]; exact Ab7 rfl (AjN W A l.length cap to (by have := Hn.out; omega))) ?_; simp only [Act.put, Qa, Qb, Qc]);refine QS fun W j => ?_
 go_wp2_with (refine ZE _ _ _ rfl ?_)
 refine Stop.to ?_;refine Qz rfl 284 3 _ rfl 23 #[PtV.val ⟨X, cap, l.take q⟩, PtV.val ⟨B, c, g⟩, PtV.val ⟨Y, cap - to, l.drop to⟩] (fun W => by kernel_rfl) ?_;intro G w2 hG rG bG;have b2 := (T2.out W j).trans ((bG.mono hG).mono (T2.out W j).size);have bW := (Below.refl W.heap.size W).trans (bG.mono hG)
 have hj := ED (some ⟨G, 0, none⟩) 3 3 [⟨X, cap, l.take q⟩, ⟨B, c, g⟩, ⟨Y, cap - to, l.drop to⟩] w2 rfl (Jq (cs := [PtV.val ⟨X, cap, l.take q⟩, PtV.val ⟨B, c, g⟩, PtV.val ⟨Y, cap - to, l.drop to⟩]) rG) (fun x hx => by
  simp only [L2, L9, or_false] at hx
  rcases hx with rfl | rfl | rfl
  · exact ⟨(HX.out.2.2 W (T0.out W j)).go bW, fun e => absurd e HX.out.2.1⟩
  · exact ⟨(T1.out W j).go bW, Hn.out.2.2.1⟩
  · exact ⟨(HY.out.2.2 W (T0.out W j)).go bW, fun e => absurd e HY.out.2.1⟩) (by simp [Zg]; have := Hn.out; omega) (by omega)
 have Hj := Lv hj;have HB := Lv b2;clear hj b2 bW rG bG hG;go_wp2_with fail
 refine Hj.out.mono ?_;rintro e w3 ⟨v, rfl, b, b3⟩;rw [show Zg [⟨X, cap, l.take q⟩, ⟨B, c, g⟩, ⟨Y, cap - to, l.drop to⟩] = l.take q ++ (g ++ l.drop to) by simp [Zg]] at b;have b4 := HB.out.trans (b3.mono HB.out.size);have i := QQ b HB.out.size;obtain ⟨n3, n⟩ : ∃ n3, n3 = (l.take q ++ (g ++ l.drop to)).length := ⟨_, rfl⟩;rw [← n] at i b;obtain ⟨A3, c3, rfl⟩ := Zj b;have HF := Lv i;have HN := Lv n;have H4 := Lv b4;clear b i n b3 b4 Hj HB;go_wp2_with fail
 go_ret
 exact ⟨_, rfl, by rw [← HN.out]; exact HF.out, H4.out⟩
theorem Kx {P : Program} (w : World) (dT sT ty elem : TypeId) (size g o dLen dCap : Nat) (a : Addr) (sLen sCap : Nat) (cur : Array Value) (t : TypeId) (cs : List Value)
 (hu : P.underlying dT = some (.slice elem)) (hs : (P.info? elem).map (·.size) = some size)
 (hg : Row w g t cur) (hn : cs.length = Nat.min sLen dLen * size)
 (hsrc : ∀ j v, cs[j]? = some v → w.cell? (a.add j) = some v) (hfit : o + cs.length ≤ cur.size) (h1 : ∀ v ∈ cs, v.oneCell' = true) :
 (Builtin.copy_ #[dT, sT] ty #[.slice (some ⟨g, o, none⟩) dLen dCap, .slice (some a) sLen sCap]).run P w =
  .ok (goInt (Nat.min sLen dLen)) (w.setRow g (ZQ cur o cs)) := by
 have c := run_loadCells_list (P := P) w a cs hsrc;have b := run_storeCells_at P g o t cs 0 cur w hg (by simpa using hfit) h1;cases hq : P.info? elem with
 | none => simp [hq] at hs
 | some i =>
  have hi : i.size = size := by simpa [hq] using hs
  simp [Builtin.copy_, run_underlying hu, Builtin.lenOf, Builtin.firstCells, sizeOf, typeInfo, hq, hi, ← hn, c, b, ZQ]
theorem AgH {cur : Array Value} {l : List Nd} {n i cap : Nat} (y : Nd) (hl : l.length = n) (hc : cur.size = cap * 2) (hn : n + 1 ≤ cap) (hi : i ≤ n) (ht : cur.toList.take (n * 2) = l.flatMap Nd.cells) :
 (ZQ (ZQ cur ((i + 1) * 2) ((l.drop i).flatMap Nd.cells)) (i * 2) y.cells).toList.take ((n + 1) * 2) = (l.take i ++ y :: l.drop i).flatMap Nd.cells := by
 have d : (l.take i).flatMap Nd.cells = cur.toList.take (i * 2) := by
  have e : l.flatMap Nd.cells = (l.take i).flatMap Nd.cells ++ (l.drop i).flatMap Nd.cells := by rw [← LD, LK]
  have g : ((l.take i).flatMap Nd.cells).length = i * 2 := by rw [Z5, L7]; congr 1; omega
  have b := congrArg (List.take (i * 2)) (ht.trans e);rw [N4 g, NL, NT (by omega)] at b;exact b.symm
 have m : ((l.drop i).flatMap Nd.cells).length = (n - i) * 2 := by rw [Z5, LU, hl]
 have c : y.cells.length = 2 := rfl;have k : cur.toList.length = cap * 2 := by rw [Nf, hc]
 rw [LD, LI, d];unfold ZQ;simp only [List.toList_toArray];have h : (cur.toList.take ((i + 1) * 2)).length = (i + 1) * 2 := by rw [L7]; omega
 have o : (cur.toList.take ((i + 1) * 2) ++ (l.drop i).flatMap Nd.cells ++ cur.toList.drop ((i + 1) * 2 + ((l.drop i).flatMap Nd.cells).length)).take (i * 2) = cur.toList.take (i * 2) := by
  rw [L4, Nx (by omega), NL, NT (by omega)]
 have p : (cur.toList.take ((i + 1) * 2) ++ (l.drop i).flatMap Nd.cells ++ cur.toList.drop ((i + 1) * 2 + ((l.drop i).flatMap Nd.cells).length)).drop (i * 2 + y.cells.length) = (l.drop i).flatMap Nd.cells ++ cur.toList.drop ((i + 1) * 2 + ((l.drop i).flatMap Nd.cells).length) := by
  rw [L4];exact List.drop_left' (by rw [h, c]; omega)
 rw [o, p]
 have j : (cur.toList.take (i * 2) ++ y.cells ++ (l.drop i).flatMap Nd.cells).length = (n + 1) * 2 := by
  simp only [Lf, L7, m, c]; omega
 rw [← L4, N4 j, L4]
theorem Afo {ops : Array Oper} {rest : List Oper} {o : Oper} {a : Act} {w : World} {Q : Exit → Act → World → Prop} (s x : Operand) (t u : TypeId) (_ : o.op = .call { callee := .builtin .copy, args := #[s, x], argTypes := #[t, u] }) (h : Stop (wpList Tryz.prog ops Q (o :: rest) a w) id) : wpList Tryz.prog ops Q (o :: rest) a w := h.out
theorem Ac9 (g J cap i : Nat) (l : List Nd) (y : Nd) (cur : Array Value) (w : World) (hg : Row w g 65 cur) (hs : cur.size = cap * 2) (ht : cur.toList.take (l.length * 2) = l.flatMap Nd.cells) (hn : l.length + 1 ≤ cap) (hc : cap ≤ maxLen) (hl : l.length ≤ 1000) (hi : i < l.length) (hJ : Row w J 65 #[.int .i64 y.tag, .int .i64 y.n]) (hne : J ≠ g) (B : Nat) (hB : B ≤ g) :
 Calls Tryz.prog 131 #[.slice (some ⟨g, 0, none⟩) l.length cap, .int .i64 (i : Int), .slice (some ⟨J, 0, none⟩) 1 1] w fun e w' => e = .returned (.slice (some ⟨g, 0, none⟩) (l.length + 1) cap) ∧ (∃ cur', Row w' g 65 cur' ∧ cur'.size = cap * 2 ∧ cur'.toList.take ((l.length + 1) * 2) = (l.take i ++ y :: l.drop i).flatMap Nd.cells) ∧ Below B w w' := by
 have s : ∀ (W : World) (lb cb : Nat), Row W J 65 #[.int .i64 y.tag, .int .i64 y.n] → Row W g 65 cur → (callFunc 164 #[.slice (some ⟨J, 0, none⟩) 1 1, .slice (some ⟨g, (i + 1) * 2, none⟩) lb cb]).run Tryz.prog W = .ok (.value (.bool false)) W := fun W lb cb h1 h2 => by
  rw [run_callFunc_extern Tryz.func164 (by kernel_rfl) (by kernel_rfl) (by kernel_rfl) (e := Extern.SlicesOverlaps.overlaps #[23, 23] #[4]) (by kernel_rfl),
   Lib.run_overlaps_apart W 23 4 65 Tryz.underlying23 2 (fun W => by kernel_rfl) ⟨J, 0, none⟩ ⟨g, (i + 1) * 2, none⟩ 1 1 lb cb hne 65 65 2 cur.size (by simp [World.shape?, show W.heap[J]? = _ from h1]) (by simp [World.shape?, show W.heap[g]? = _ from h2]) (by omega) (by simp [World.frozen?, show W.heap[J]? = _ from h1]) (by simp [World.frozen?, show W.heap[J]? = _ from h1])]
  rfl
 obtain ⟨n, b⟩ : ∃ n, n = l.length := ⟨_, rfl⟩;rw [← b] at ht hn hl hi ⊢;have k := fun lb cb => s w lb cb hJ hg
 have ae := Lv s;have Ht := Lv (And.intro b (And.intro hs ht));have z1 : ¬ ((i : Int) = (n : Int)) := by omega
 have z2 : ¬ ((cap : Int) < (n : Int) + 1) := by omega
 have z3 : (i : Int) ≤ (n : Int) := by omega
 have z4 : IntKind.i64.wrap ((i : Int) + 1) = (i : Int) + 1 := by rw [IntKind.wrap_i64]; omega
 have z5 : IntKind.i64.wrap ((n : Int) + 1) = (n : Int) + 1 := by rw [IntKind.wrap_i64]; omega
 have z6 : (0 : Int) ≤ (i : Int) + 1 := by omega
 have z7 : ((i : Int) + 1).toNat = i + 1 := by omega
 have z8 : ((n : Int) + 1).toNat = n + 1 := by omega
 have z9 : (n : Int) + 1 ≤ (cap : Int) := by omega
 have y1 : ¬ (cap = i) := by omega
 have y2 : ¬ (cap = i + 1) := by omega
 have y3 : ¬ (cap = 0) := by omega
 have y4 : (i : Int) + 1 ≤ (n : Int) + 1 := by omega
 have y5 : (i : Int) ≤ (n : Int) + 1 := by omega
 clear s b hs ht;go_enter Tryz.func131, Tryz.ntmps131
 go_wp2_with (simp only [k])
 obtain ⟨S, c⟩ : ∃ S, S = (fun W => (Row W g 65 cur ∧ Row W J 65 #[.int .i64 y.tag, .int .i64 y.n]) ∧ Below w.heap.size w W) := ⟨_, rfl⟩;have ag : St S := by rw [c]; infer_instance
 have TG : Hid (∀ W, S W → Row W g 65 cur) := by show ∀ W, _; rw [c]; exact fun W h => h.1.1
 have TJ : Hid (∀ W, S W → Row W J 65 #[.int .i64 y.tag, .int .i64 y.n]) := by show ∀ W, _; rw [c]; exact fun W h => h.1.2
 have TB : Hid (∀ W, S W → Below w.heap.size w W) := by show ∀ W, _; rw [c]; exact fun W h => h.2
 have hS : S w := by rw [c]; exact ⟨⟨hg, hJ⟩, Below.refl _ _⟩
 have af := hg.lt;clear c hg hJ k ae;refine ZA S 8 (by kernel_rfl) (by kernel_rfl) (St.drew hS) ?_;clear hS;simp only [LF, LP, LE, LL]
 iterate 8 (refine Qg rfl ?_ (fun W p => ?_) ?_; rotate_left; (focus (go_simp; exact rfl)); simp only [Act.put, Qa, Qb, Qc])
 refine QS fun W p => ?_
 obtain ⟨b, ac, u⟩ := Ht.out;have q : ((l.drop i).flatMap Nd.cells).length = (n - i) * 2 := by rw [Z5, LU, b]
 have m : ∀ j v, ((l.drop i).flatMap Nd.cells)[j]? = some v → cur[i * 2 + j]? = some v := by
  intro j v hj;have ah := (Ld.1 hj).1;have ab : ((l.take i).flatMap Nd.cells).length = i * 2 := by rw [Z5, L7]; congr 1; omega
  have e : (l.flatMap Nd.cells)[i * 2 + j]? = some v := by
   rw [← LK i l, LD, L8 (by omega), ab, Ny];exact hj
  rw [← u, LV (by omega)] at e;simpa using e
 have aa := fun ty dc sc => Kx (P := Tryz.prog) W 23 23 ty 65 2 g ((i + 1) * 2) (n - i) dc ⟨g, i * 2, none⟩ (n + 1 - i) sc cur 65 ((l.drop i).flatMap Nd.cells) Tryz.underlying23 (by kernel_rfl) (TG.out W p) (by rw [q]; simp only [Nat.min_def]; split <;> omega) (Row.from_ (TG.out W p) (i * 2) m) (by omega) (VO _)
 have r1 : Row (W.setRow g (ZQ cur ((i + 1) * 2) ((l.drop i).flatMap Nd.cells))) g 65 (ZQ cur ((i + 1) * 2) ((l.drop i).flatMap Nd.cells)) := setRow_heap W g cur _ _ _ (TG.out W p);have o1 := Zv W g (ZQ cur ((i + 1) * 2) ((l.drop i).flatMap Nd.cells));have x := (TJ.out W p).only o1 hne;have b1 := Ql ((TB.out W p).mono (Nat.le_of_lt (ND hB af))) o1 hB;have t := AgH (cur := cur) (l := l) (n := n) (i := i) (cap := cap) y b.symm ac hn (by omega) u
 have ad : (ZQ cur ((i + 1) * 2) ((l.drop i).flatMap Nd.cells)).size = cap * 2 := by
  unfold ZQ; simp only [Lm, Lf, L7, LU, Nf, q]; omega
 clear b ac u q m;refine Zc rfl _ (JF rfl (aa _ _ _)) ?_;generalize W.setRow g (ZQ cur ((i + 1) * 2) ((l.drop i).flatMap Nd.cells)) = W1 at r1 o1 x b1 ⊢;generalize ZQ cur ((i + 1) * 2) ((l.drop i).flatMap Nd.cells) = c1 at r1 t ad ⊢;have d := fun ty dc => Kx (P := Tryz.prog) W1 23 23 ty 65 2 g (i * 2) (n + 1 - i) dc ⟨J, 0, none⟩ 1 1 c1 65 y.cells Tryz.underlying23 (by kernel_rfl) r1 (by show 2 = _; simp only [Nat.min_def]; split <;> omega) (Row.from_ x 0 (fun j v hj => by rw [LN]; simpa [Nd.cells] using hj)) (by show i * 2 + 2 ≤ _; omega) (by simp [Nd.cells, Value.oneCell'])
 have r2 : Row (W1.setRow g (ZQ c1 (i * 2) y.cells)) g 65 (ZQ c1 (i * 2) y.cells) := setRow_heap W1 g c1 _ _ _ r1;have o2 := Zv W1 g (ZQ c1 (i * 2) y.cells);have b2 := Ql b1 o2 hB
 have o : (ZQ c1 (i * 2) y.cells).size = cap * 2 := by
  unfold ZQ; simp only [Lm, Lf, L7, LU, Nf, show y.cells.length = 2 from rfl]; omega
 have HF := Lv (And.intro (show ∃ cur', Row (W1.setRow g (ZQ c1 (i * 2) y.cells)) g 65 cur' ∧ cur'.size = cap * 2 ∧ cur'.toList.take ((n + 1) * 2) = (l.take i ++ y :: l.drop i).flatMap Nd.cells from ⟨_, r2, o, t⟩) b2);have z := Lv d;clear aa r1 o1 x b1 t ad r2 o2 b2 o d p ag TG TJ TB Ht;go_wp2_with (refine Afo _ _ _ _ rfl ?_)
 refine Stop.to ?_;refine Zc rfl _ (JF rfl (z.out _ _)) ?_;go_wp2_with fail
 go_ret
 exact ⟨rfl, HF.out.1, HF.out.2⟩
end Go.Proofs.YtkoikjnlpifbjaaGreat
