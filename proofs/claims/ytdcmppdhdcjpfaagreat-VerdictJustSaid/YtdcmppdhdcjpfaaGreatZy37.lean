/- Lemmas for VerdictJustP. -/
import Derived.Test.YtdcmppdhdcjpfaaGreatZy1
import Derived.Test.YtdcmppdhdcjpfaaGreatZy36
set_option linter.unusedVariables false
set_option linter.unusedSimpArgs false
set_option maxRecDepth 100000
set_option maxHeartbeats 16000000
namespace Go.Proofs.YtdcmppdhdcjpfaaGreat
open Go.RowKit Go.Deep
theorem JS {P : Program} {o : Oper} {a : Act} {w w1 : World} {K : Act → World → Prop} {Q : Exit → Act → World → Prop} (f : FuncId) (args : Array Value) (he : (execOp a.eval o).run P w = .ok (.enter f args) w1)
 (hc : Calls P f args w1 fun
  | .returned v, w' => K (a.put o.dst v) w'
  | .panicked ch, w' => Q (.panic ch) a w'
  | .outgrown, _ => LetsOut Q) : o.wp P a w K Q := by
 unfold Oper.wp; rw [he]; exact hc
theorem DR.stop {L : Lay} {s : Ms} {ev : Value} {W : World} (h : DR L s ev W) (k v : Int) : DR L (s.stop k v) ev W := ⟨h.row, h.evs, h.rows, h.im, h.size, h.sum, h.few⟩
theorem EntD.at1 {L : Lay} {t : Tr} {s s' : Ms} {v : Int} (h : EntD L t s v s') {q : Nat} {ev : Value} {W : World} (hat : At L.p.body (q + 1) t) (hm : DR L s ev W) :
 Calls Tryz.prog 119 #[.pointer (some ⟨L.M, 0, none⟩), .int .i64 ((q : Int) + 1)] W fun e W' => e = AfW v s' ∧ ∃ ev', DR L s' ev' W' ∧ RChg L ev W ev' W' := by
 have := h (q + 1) ev W hat hm;rwa [Int.natCast_add] at this
def Ahg (s : Ms) : Ending := match s.out with | none => .returned (.tuple #[]) | some o => Q7 o.1 o.2
theorem JM {s : Ms} (h : s.out = none) : Ahg s = .returned (.tuple #[]) := by unfold Ahg; rw [h]
theorem Ja {k x : Int} {s : Ms} (h : s.out = some (k, x)) : Ahg s = Q7 k x := by unfold Ahg; rw [h]
def DoD (L : Lay) (x : Nd) (ks : List Tr) (t s' : Ms) : Prop := ∀ (q : Nat) (ev : Value) (W : World), At L.p.body q (.node x ks) → DR L t ev W →
 Calls Tryz.prog 193 #[.pointer (some ⟨L.M, 0, none⟩), .agg #[.int .i64 x.tag, .int .i64 x.n], .int .i64 (q : Int)] W fun e W' => e = Ahg s' ∧ ∃ ev', DR L s' ev' W' ∧ RChg L ev W ev' W'
inductive WhD (L : Lay) (a b : Tr) : Ms → Ms → Prop
 | cut {t t1 : Ms} {v : Int} (h1 : EntD L a t v t1) (ho : t1.out.isSome = true) : WhD L a b t t1
 | done {t t1 : Ms} {v : Int} (h1 : EntD L a t v t1) (ho : t1.out = none) (hv : v ≠ 1) : WhD L a b t t1
 | cut2 {t t1 t2 : Ms} {u : Int} (h1 : EntD L a t 1 t1) (ho : t1.out = none) (h2 : EntD L b t1 u t2) (ho2 : t2.out.isSome = true) : WhD L a b t t2
 | empty {t t1 t2 : Ms} {u : Int} (h1 : EntD L a t 1 t1) (ho : t1.out = none) (h2 : EntD L b t1 u t2) (ho2 : t2.out = none) (hf : t2.fuel = 0) : WhD L a b t (t2.stop 4 0)
 | more {t t1 t2 s' : Ms} {u : Int} (h1 : EntD L a t 1 t1) (ho : t1.out = none) (h2 : EntD L b t1 u t2) (hg : t2.go) (hle : t.steps ≤ t2.steps) (h3 : WhD L a b t2.tick s') : WhD L a b t s'
theorem Ae6 (L : Lay) (hL : DOk L) (s : Ms) (ev : Value) (q : Nat) (x : Nd) (ks : List Tr) (n : Int) (m : Nat) (hm : n = (m : Int)) (qn : Nat) (W : World) (h : DR L s ev W) (hat : At L.p.body q (.node x ks)) (hn : (QW (q + 1) ks)[m]? = some qn) :
 Calls Tryz.prog 190 #[.pointer (some ⟨L.M, 0, none⟩), .int .i64 (q : Int), .int .i64 n] W fun e W' => e = .returned (.int .i64 (qn : Int)) ∧ Below W.heap.size W W' := by
 subst hm; exact Ag6 L hL s ev q x ks m qn W h hat hn
theorem Eb (L : Lay) (hL : DOk L) (ts : List Tr) (q : Nat) (s s' : Ms) (vs : List Int) (n : Int) (hn : n = (ts.length : Int)) (ev : Value) (W : World) (h : DR L s ev W) (hats : Ats L.p.body (q + 1) ts) (hch : Ke L ts s vs s') (ho : s.out = none) (hl : ts.length ≤ 1000) :
 Calls Tryz.prog 191 #[.pointer (some ⟨L.M, 0, none⟩), .int .i64 ((q : Int) + 1), .int .i64 n] W fun e W' => ∃ ev', DR L s' ev' W' ∧ RChg L ev W ev' W' ∧ ((∃ k x, s'.out = some (k, x) ∧ e = Q7 k x) ∨ (s'.out = none ∧ ∃ v, e = .returned v ∧ FOwn L ev' W' W.heap.size v vs)) := by
 subst hn;have := AfS L hL ts (q + 1) s s' vs ev W h hats hch ho hl;rwa [Int.natCast_add] at this
theorem DR.drew1 {L : Lay} {s : Ms} {ev : Value} {W : World} (h : DR L s ev W) (hL : LOk0 L) : DR L s ev W.drew := h.drew hL 1
theorem Aj0 (L : Lay) (hL : DOk L) (x : Nd) (t : Ms) (ht : x.tag = 26) (ho : t.out = none) : DoD L x [] t t := by
 obtain ⟨tag, n⟩ := x;dsimp only at ht ⊢;subst ht;have w := Lh ho;clear ho;intro q c y e h;have r := Lh hL;have s := Lh e;have d := Lh h;have l := hL.blen;have m := e.lt;have z : IntKind.i64.wrap ((q : Int) + 1) = (q : Int) + 1 := IntWalk.i64_in _ (by omega);clear h e hL m l;go_enter Tryz.func193, Tryz.ntmps193
 go_wp2_with (refine Qn _ _ rfl ?_)
 refine Stop.to ?_;refine Qe rfl 85 _ rfl #[.int .i64 26, .int .i64 n] rfl ?_;intro X W j g k;have o := d.out.below r.out (k.mono j);have u := Lh o;have HX : Hid (FRow L c W X 85 #[.int .i64 26, .int .i64 n]) := ⟨d.out.far_new j g.lt, g⟩;have p : Hid (RChg L c y c W) := RChg.below (k.mono j);have x0 := g.cellv (i := 0) (v := .int .i64 26) rfl;have x1 := g.cellv (i := 1) (v := .int .i64 n) rfl;clear o j g k d;go_wp2
 go_end0
 exact ⟨(JM w.out).symm, c, u.out, p.out⟩
theorem AiJ (L : Lay) (hL : DOk L) (x : Nd) (ks : List Tr) (vs : List Int) (t s' : Ms) (ht : x.tag = 20) (hn : x.n = (ks.length : Int)) (hl : ks.length ≤ 1000) (ho : t.out = none) (hch : Ke L ks t vs s') : DoD L x ks t s' := by
 obtain ⟨tag, w⟩ := x;dsimp only at ht ⊢;subst ht;dsimp only at hn;have Hn := Lh hn;have z := Lh hch;have Ho := Lh ho;clear ho hch hn;intro q d W0 k h;have HL := Lh hL;have y := Lh k;have g := Lh h;have ab := hL.blen;have ac := k.lt;have aa : IntKind.i64.wrap ((q : Int) + 1) = (q : Int) + 1 := IntWalk.i64_in _ (by omega);clear h k hL ac ab;go_enter Tryz.func193, Tryz.ntmps193
 go_wp2_with (refine Qn _ _ rfl ?_)
 refine Stop.to ?_;refine Qe rfl 85 _ rfl #[.int .i64 20, .int .i64 w] rfl ?_;intro X W u s b1;have hm := g.out.below HL.out (b1.mono u);have Hm := Lh hm;have HX : Hid (FRow L d W X 85 #[.int .i64 20, .int .i64 w]) := ⟨g.out.far_new u s.lt, s⟩;have HC : Hid (RChg L d W0 d W) := RChg.below (b1.mono u);have x0 := s.cellv (i := 0) (v := .int .i64 20) rfl;have x1 := s.cellv (i := 1) (v := .int .i64 w) rfl;clear hm u s b1 g;go_wp2_with fail
 refine (Eb L HL.out ks q t s' vs w Hn.out d W Hm.out y.out.kids z.out Ho.out hl).mono ?_;rintro e Wa ⟨o, r, p, hr⟩;have l := Lh (HC.out.trans p);have m := Lh r;clear r p Hm HC HX x0 x1 aa;rcases hr with ⟨ok, ox, c, rfl⟩ | ⟨c, v, rfl, _⟩
 · simp only [Q7];have j := Lh c;clear c;go_wp2
   exact ⟨rfl, (Ja j.out).symm, o, m.out, l.out⟩
 · have j := Lh c;clear c;go_wp2
   go_end0
   exact ⟨(JM j.out).symm, o, m.out, l.out⟩
theorem Aku (L : Lay) (hL : DOk L) (x : Nd) (a : Tr) (t t1 : Ms) (v : Int) (ht : x.tag = 25) (h1 : EntD L a t v t1) (ho : t1.out = none) : DoD L x [a] t (t1.stop 0 v) := by
 obtain ⟨tag, r⟩ := x;dsimp only at ht ⊢;subst ht;intro q g W0 j h;have HL := Lh hL;have u := Lh j;have d := Lh h;have z := hL.blen;have aa := j.lt;have ab : IntKind.i64.wrap ((q : Int) + 1) = (q : Int) + 1 := IntWalk.i64_in _ (by omega);clear h j hL aa z;go_enter Tryz.func193, Tryz.ntmps193
 go_wp2_with (refine Qn _ _ rfl ?_)
 refine Stop.to ?_;refine Qe rfl 85 _ rfl #[.int .i64 25, .int .i64 r] rfl ?_;intro X W p m w;have hm := d.out.below HL.out (w.mono p);have o := Lh hm;have n : Hid (FRow L g W X 85 #[.int .i64 25, .int .i64 r]) := ⟨d.out.far_new p m.lt, m⟩;have s : Hid (RChg L g W0 g W) := RChg.below (w.mono p);have x0 := m.cellv (i := 0) (v := .int .i64 25) rfl;have x1 := m.cellv (i := 1) (v := .int .i64 r) rfl;clear hm p m w d;have c := Lh (EntD.at1 h1 u.out.kids.head o.out);go_wp2_with fail
 refine c.out.mono ?_;rintro e Wa ⟨rfl, y, l, k⟩;replace n := Lh (n.out.go HL.out k);replace s := Lh (s.out.trans k);clear c x0 x1 o h1;have o := Lh l;have x0 := n.out.2.cellv (i := 0) (v := .int .i64 25) rfl;have x1 := n.out.2.cellv (i := 1) (v := .int .i64 r) rfl;clear l k;rw [QR ho];clear ho;go_wp2_with fail
 refine (YF _ _ _).mono ?_;rintro e w' ⟨rfl, rfl⟩;simp only [Q7];go_wp2
 exact ⟨rfl, rfl, y, o.out.stop _ _, s.out⟩
theorem Ahe (L : Lay) (hL : DOk L) (x : Nd) (a : Tr) (t t1 : Ms) (v : Int) (ht : x.tag = 25) (h1 : EntD L a t v t1) (ho : t1.out.isSome = true) : DoD L x [a] t t1 := by
 obtain ⟨tag, s⟩ := x;dsimp only at ht ⊢;subst ht;intro q g W0 j h;have HL := Lh hL;have w := Lh j;have d := Lh h;have ab := hL.blen;have ac := j.lt;have ad : IntKind.i64.wrap ((q : Int) + 1) = (q : Int) + 1 := IntWalk.i64_in _ (by omega);clear h j hL ac ab;go_enter Tryz.func193, Tryz.ntmps193
 go_wp2_with (refine Qn _ _ rfl ?_)
 refine Stop.to ?_;refine Qe rfl 85 _ rfl #[.int .i64 25, .int .i64 s] rfl ?_;intro X W r n z;have hm := d.out.below HL.out (z.mono r);have p := Lh hm;have o : Hid (FRow L g W X 85 #[.int .i64 25, .int .i64 s]) := ⟨d.out.far_new r n.lt, n⟩;have u : Hid (RChg L g W0 g W) := RChg.below (z.mono r);have x0 := n.cellv (i := 0) (v := .int .i64 25) rfl;have x1 := n.cellv (i := 1) (v := .int .i64 s) rfl;clear hm r n z d;have c := Lh (EntD.at1 h1 w.out.kids.head p.out);go_wp2_with fail
 refine c.out.mono ?_;rintro e Wa ⟨rfl, aa, m, k⟩;replace o := Lh (o.out.go HL.out k);replace u := Lh (u.out.trans k);clear c x0 x1 p h1;have p := Lh m;have x0 := o.out.2.cellv (i := 0) (v := .int .i64 25) rfl;have x1 := o.out.2.cellv (i := 1) (v := .int .i64 s) rfl;clear m k;obtain ⟨⟨ok, ox⟩, l⟩ := LK.1 ho;rw [Zl l];simp only [Q7];have y := Lh l;clear l ho;go_wp2
 exact ⟨rfl, (Ja y.out).symm, aa, p.out, u.out⟩
theorem AiK (L : Lay) (hL : DOk L) (x : Nd) (a : Tr) (ks : List Tr) (t t1 : Ms) (v : Int) (ht : x.tag = 23) (h1 : EntD L a t v t1) (ho : t1.out.isSome = true) : DoD L x (a :: ks) t t1 := by
 obtain ⟨tag, s⟩ := x;dsimp only at ht ⊢;subst ht;intro q g W0 j h;have HL := Lh hL;have w := Lh j;have d := Lh h;have ab := hL.blen;have ac := j.lt;have ad : IntKind.i64.wrap ((q : Int) + 1) = (q : Int) + 1 := IntWalk.i64_in _ (by omega);clear h j hL ac ab;go_enter Tryz.func193, Tryz.ntmps193
 go_wp2_with (refine Qn _ _ rfl ?_)
 refine Stop.to ?_;refine Qe rfl 85 _ rfl #[.int .i64 23, .int .i64 s] rfl ?_;intro X W r n z;have hm := d.out.below HL.out (z.mono r);have p := Lh hm;have o : Hid (FRow L g W X 85 #[.int .i64 23, .int .i64 s]) := ⟨d.out.far_new r n.lt, n⟩;have u : Hid (RChg L g W0 g W) := RChg.below (z.mono r);have x0 := n.cellv (i := 0) (v := .int .i64 23) rfl;have x1 := n.cellv (i := 1) (v := .int .i64 s) rfl;clear hm r n z d;have c := Lh (EntD.at1 h1 w.out.kids.head p.out);go_wp2_with fail
 refine c.out.mono ?_;rintro e Wa ⟨rfl, aa, m, k⟩;replace o := Lh (o.out.go HL.out k);replace u := Lh (u.out.trans k);clear c x0 x1 p h1;have p := Lh m;have x0 := o.out.2.cellv (i := 0) (v := .int .i64 23) rfl;have x1 := o.out.2.cellv (i := 1) (v := .int .i64 s) rfl;clear m k;obtain ⟨⟨ok, ox⟩, l⟩ := LK.1 ho;rw [Zl l];simp only [Q7];have y := Lh l;clear l ho;go_wp2
 exact ⟨rfl, (Ja y.out).symm, aa, p.out, u.out⟩
theorem Ak4 (L : Lay) (hL : DOk L) (x : Nd) (a b c k : Tr) (t t1 s2 : Ms) (v u : Int) (ht : x.tag = 23) (h1 : EntD L a t v t1) (ho : t1.out = none) (hv01 : v = 0 ∨ v = 1) (hv : [a, b, c][(2 - v).toNat]? = some k) (h2 : EntD L k t1 u s2) : DoD L x [a, b, c] t s2 := by
 obtain ⟨tag, nn⟩ := x;dsimp only at ht ⊢;subst ht;rcases hv01 with rfl | rfl
 · obtain rfl : c = k := by simpa using hv
   clear hv;intro q r W0 s h;have HL := Lh hL;have n := Lh s;have p := Lh h;have al := hL.blen;have am := s.lt;have ak : IntKind.i64.wrap ((q : Int) + 1) = (q : Int) + 1 := IntWalk.i64_in _ (by omega);clear h s hL am al;go_enter Tryz.func193, Tryz.ntmps193
   go_wp2_with (refine Qn _ _ rfl ?_)
   refine Stop.to ?_;refine Qe rfl 85 _ rfl #[.int .i64 23, .int .i64 nn] rfl ?_;intro X W hX rX b1;have hm := p.out.below HL.out (b1.mono hX);have g := Lh hm;have HX : Hid (FRow L r W X 85 #[.int .i64 23, .int .i64 nn]) := ⟨p.out.far_new hX rX.lt, rX⟩;have m : Hid (RChg L r W0 r W) := RChg.below (b1.mono hX);have x0 := rX.cellv (i := 0) (v := .int .i64 23) rfl;have x1 := rX.cellv (i := 1) (v := .int .i64 nn) rfl;clear hm hX rX b1 p;obtain ⟨qn, ah, l⟩ := VD n.out (i := 2) (k := c) rfl;have d := Lh (EntD.at1 h1 n.out.kids.head g.out);go_wp2_with fail
   refine d.out.mono ?_;rintro e Wa ⟨rfl, j, ae, w⟩;replace HX := Lh (HX.out.go HL.out w);replace m := Lh (m.out.trans w);clear d x0 x1 g h1;have g := Lh ae;have x0 := HX.out.2.cellv (i := 0) (v := .int .i64 23) rfl;have x1 := HX.out.2.cellv (i := 1) (v := .int .i64 nn) rfl;clear ae w;rw [QR ho];clear ho;go_wp2_with fail
   refine (Ae6 L HL.out t1 j q _ [a, b, c] 2 2 rfl qn Wa g.out n.out ah).mono ?_;rintro e Wb ⟨rfl, bb⟩;have aa := Lh (g.out.below HL.out bb);have ac : RChg L j Wa j Wb := RChg.below bb;have z := Lh (m.out.trans ac);clear bb ac g m HX x0 x1 ah;have d := Lh (h2 qn j Wb l aa.out);clear l h2 ak;go_wp2_with fail
   refine d.out.mono ?_;rintro e Wc ⟨rfl, ab, af, ad⟩;have g := Lh af;have m := Lh (z.out.trans ad);clear af ad aa z d;cases hs2 : s2.out with
   | none =>
    rw [QR hs2];have aj := Lh hs2;clear hs2;go_wp2
    go_end0
    exact ⟨(JM aj.out).symm, ab, g.out, m.out⟩
   | some o =>
    have ag : s2.out.isSome = true := by rw [hs2]; rfl
    clear hs2;obtain ⟨⟨ok, ox⟩, y⟩ := LK.1 ag;rw [Zl y];simp only [Q7];have ai := Lh y;clear y ag;go_wp2
    exact ⟨rfl, (Ja ai.out).symm, ab, g.out, m.out⟩
 · obtain rfl : b = k := by simpa using hv
   clear hv;intro q r W0 s h;have HL := Lh hL;have n := Lh s;have p := Lh h;have al := hL.blen;have am := s.lt;have ak : IntKind.i64.wrap ((q : Int) + 1) = (q : Int) + 1 := IntWalk.i64_in _ (by omega);clear h s hL am al;go_enter Tryz.func193, Tryz.ntmps193
   go_wp2_with (refine Qn _ _ rfl ?_)
   refine Stop.to ?_;refine Qe rfl 85 _ rfl #[.int .i64 23, .int .i64 nn] rfl ?_;intro X W hX rX b1;have hm := p.out.below HL.out (b1.mono hX);have g := Lh hm;have HX : Hid (FRow L r W X 85 #[.int .i64 23, .int .i64 nn]) := ⟨p.out.far_new hX rX.lt, rX⟩;have m : Hid (RChg L r W0 r W) := RChg.below (b1.mono hX);have x0 := rX.cellv (i := 0) (v := .int .i64 23) rfl;have x1 := rX.cellv (i := 1) (v := .int .i64 nn) rfl;clear hm hX rX b1 p;obtain ⟨qn, ah, l⟩ := VD n.out (i := 1) (k := b) rfl;have d := Lh (EntD.at1 h1 n.out.kids.head g.out);go_wp2_with fail
   refine d.out.mono ?_;rintro e Wa ⟨rfl, j, ae, w⟩;replace HX := Lh (HX.out.go HL.out w);replace m := Lh (m.out.trans w);clear d x0 x1 g h1;have g := Lh ae;have x0 := HX.out.2.cellv (i := 0) (v := .int .i64 23) rfl;have x1 := HX.out.2.cellv (i := 1) (v := .int .i64 nn) rfl;clear ae w;rw [QR ho];clear ho;go_wp2_with fail
   refine (Ae6 L HL.out t1 j q _ [a, b, c] 1 1 rfl qn Wa g.out n.out ah).mono ?_;rintro e Wb ⟨rfl, bb⟩;have aa := Lh (g.out.below HL.out bb);have ac : RChg L j Wa j Wb := RChg.below bb;have z := Lh (m.out.trans ac);clear bb ac g m HX x0 x1 ah;have d := Lh (h2 qn j Wb l aa.out);clear l h2 ak;go_wp2_with fail
   refine d.out.mono ?_;rintro e Wc ⟨rfl, ab, af, ad⟩;have g := Lh af;have m := Lh (z.out.trans ad);clear af ad aa z d;cases hs2 : s2.out with
   | none =>
    rw [QR hs2];have aj := Lh hs2;clear hs2;go_wp2
    go_end0
    exact ⟨(JM aj.out).symm, ab, g.out, m.out⟩
   | some o =>
    have ag : s2.out.isSome = true := by rw [hs2]; rfl
    clear hs2;obtain ⟨⟨ok, ox⟩, y⟩ := LK.1 ag;rw [Zl y];simp only [Q7];have ai := Lh y;clear y ag;go_wp2
    exact ⟨rfl, (Ja ai.out).symm, ab, g.out, m.out⟩
theorem Ahf (L : Lay) (hL : DOk L) (x : Nd) (a : Tr) (t t1 : Ms) (v : Int) (ht : x.tag = 21) (h1 : EntD L a t v t1) (ho : t1.out.isSome = true) : DoD L x [a] t t1 := by
 obtain ⟨tag, l⟩ := x;dsimp only at ht ⊢;subst ht;intro q c W0 j h;have HL := Lh hL;have w := Lh j;have g := Lh h;have ac := hL.blen;have ad := j.lt;have ab : IntKind.i64.wrap ((q : Int) + 1) = (q : Int) + 1 := IntWalk.i64_in _ (by omega);clear h j hL ad ac;go_enter Tryz.func193, Tryz.ntmps193
 go_wp2_with (refine Qn _ _ rfl ?_)
 refine Stop.to ?_;refine Qe rfl 85 _ rfl #[.int .i64 21, .int .i64 l] rfl ?_;intro X W s r b1;have hm := g.out.below HL.out (b1.mono s);have Hm := Lh hm;have HX : Hid (FRow L c W X 85 #[.int .i64 21, .int .i64 l]) := ⟨g.out.far_new s r.lt, r⟩;have HC : Hid (RChg L c W0 c W) := RChg.below (b1.mono s);have x0 := r.cellv (i := 0) (v := .int .i64 21) rfl;have x1 := r.cellv (i := 1) (v := .int .i64 l) rfl;clear hm s r b1 g;have d := EntD.at1 h1 w.out.kids.head (Hm.out.drew1 HL.out);go_wp2_with fail
 refine wp_region_held (S := fun W => Row W X 85 #[.int .i64 21, .int .i64 l]) (by kernel_rfl) ?_;simp only [Lj, Ld, Lp, Nat.reduceAdd, Ll, Lm, Lr, Lo, Lk];show wpAnyH _ _ _ _ _ _ _ _ W.drew;have hS : Row W.drew X 85 #[.int .i64 21, .int .i64 l] := HX.out.2;(refine tkH 0 (.pointer (some ⟨L.M, 0, none⟩)) rfl (Qd rfl (fun W m => by (go_simp))) ?_; simp only [Act.put, Qa, Qb, Qc]);(refine tkH 1 (.pointer (some ⟨X, 1, none⟩)) rfl (Qd rfl (fun W m => by (go_simp))) ?_; simp only [Act.put, Qa, Qb, Qc]);(refine tkH 2 (.int .i64 l) rfl (Qd rfl (fun W m => by ((have h := m.cellv (i := 1) (v := .int .i64 l) rfl; go_simp)))) ?_; simp only [Act.put, Qa, Qb, Qc]);(refine tkH 3 (.pointer (some ⟨L.M, 0, none⟩)) rfl (Qd rfl (fun W m => by (go_simp))) ?_; simp only [Act.put, Qa, Qb, Qc]);(refine tkH 4 (.int .i64 (q : Int)) rfl (Qd rfl (fun W m => by (go_simp))) ?_; simp only [Act.put, Qa, Qb, Qc]);(refine tkH 5 (.int .i64 ((q : Int) + 1)) rfl (Qd rfl (fun W m => by (go_simp; try exact ab))) ?_; simp only [Act.put, Qa, Qb, Qc])
 (refine wpAnyH_all (rs := [6]) (by kernel_rfl) (by simp) (fun i hi => ?_); obtain rfl : i = 6 := by simpa using hi);refine Qf rfl rfl (fun K2 ae => ?_);refine JS 119 #[.pointer (some ⟨L.M, 0, none⟩), .int .i64 ((q : Int) + 1)] (w1 := W.drew) (by go_simp) ?_;refine d.mono ?_;rintro e Wa ⟨rfl, aa, p, n⟩;clear d;obtain ⟨⟨ok, ox⟩, k⟩ := LK.1 ho;rw [Zl k];simp only [Q7];have o : RChg L c W c W.drew := RChg.below ⟨rfl, rfl, rfl, Nat.le_refl _, fun _ _ => rfl⟩;have u := Lh (HC.out.trans (o.trans n));have y := Lh p;have z := Lh k;clear k ho p n o;go_wp2
 exact ⟨rfl, (Ja z.out).symm, aa, y.out, u.out⟩
theorem Akv (L : Lay) (hL : DOk L) (x : Nd) (a : Tr) (t t1 : Ms) (v ty : Int) (ht : x.tag = 21) (h1 : EntD L a t v t1) (ho : t1.out = none) (hn0 : 0 ≤ x.n) (hV : L.p.V[x.n.toNat]? = some ty) (hz : Qy ty = 0) (hlen : t1.vals.length = L.p.V.length) (hf : t1.evs.length < t1.steps) : DoD L x [a] t (t1.setv x.n v) := by
 obtain ⟨tag, d⟩ := x;dsimp only at ht ⊢;subst ht;dsimp only at hn0 hV ⊢;obtain ⟨n, rfl⟩ : ∃ n : Nat, d = (n : Int) := ⟨d.toNat, by omega⟩;rw [Li] at hV;generalize ad : (n : Int) = d;have ah := Lh ad;have HV := Lh hV;have Hz := Lh hz;have aa := Lh hlen;have Hf := Lh hf;have Ho := Lh ho;clear ad hV hz hlen hf ho hn0;intro q c W0 m h;have z := Lh hL;have af := Lh m;have j := Lh h;have am := hL.blen;have ao := m.lt;have al : IntKind.i64.wrap ((q : Int) + 1) = (q : Int) + 1 := IntWalk.i64_in _ (by omega);clear h m hL ao am;go_enter Tryz.func193, Tryz.ntmps193
 go_wp2_with (refine Qn _ _ rfl ?_)
 refine Stop.to ?_;refine Qe rfl 85 _ rfl #[.int .i64 21, .int .i64 d] rfl ?_;intro X W hX rX b1;have hm := j.out.below z.out (b1.mono hX);have Hm := Lh hm;have HX : Hid (FRow L c W X 85 #[.int .i64 21, .int .i64 d]) := ⟨j.out.far_new hX rX.lt, rX⟩;have HC : Hid (RChg L c W0 c W) := RChg.below (b1.mono hX);have x0 := rX.cellv (i := 0) (v := .int .i64 21) rfl;have x1 := rX.cellv (i := 1) (v := .int .i64 d) rfl;clear hm hX rX b1 j;have g := EntD.at1 h1 af.out.kids.head (Hm.out.drew1 z.out);go_wp2_with fail
 refine wp_region_held (S := fun W => Row W X 85 #[.int .i64 21, .int .i64 d]) (by kernel_rfl) ?_;simp only [Lj, Ld, Lp, Nat.reduceAdd, Ll, Lm, Lr, Lo, Lk];show wpAnyH _ _ _ _ _ _ _ _ W.drew;have hS : Row W.drew X 85 #[.int .i64 21, .int .i64 d] := HX.out.2;(refine tkH 0 (.pointer (some ⟨L.M, 0, none⟩)) rfl (Qd rfl (fun W w => by (go_simp))) ?_; simp only [Act.put, Qa, Qb, Qc]);(refine tkH 1 (.pointer (some ⟨X, 1, none⟩)) rfl (Qd rfl (fun W w => by (go_simp))) ?_; simp only [Act.put, Qa, Qb, Qc]);(refine tkH 2 (.int .i64 d) rfl (Qd rfl (fun W w => by ((have h := w.cellv (i := 1) (v := .int .i64 d) rfl; go_simp)))) ?_; simp only [Act.put, Qa, Qb, Qc]);(refine tkH 3 (.pointer (some ⟨L.M, 0, none⟩)) rfl (Qd rfl (fun W w => by (go_simp))) ?_; simp only [Act.put, Qa, Qb, Qc]);(refine tkH 4 (.int .i64 (q : Int)) rfl (Qd rfl (fun W w => by (go_simp))) ?_; simp only [Act.put, Qa, Qb, Qc]);(refine tkH 5 (.int .i64 ((q : Int) + 1)) rfl (Qd rfl (fun W w => by (go_simp; try exact al))) ?_; simp only [Act.put, Qa, Qb, Qc])
 (refine wpAnyH_all (rs := [6]) (by kernel_rfl) (by simp) (fun i hi => ?_); obtain rfl : i = 6 := by simpa using hi);refine Qf rfl rfl (fun K2 k => ?_);refine JS 119 #[.pointer (some ⟨L.M, 0, none⟩), .int .i64 ((q : Int) + 1)] (w1 := W.drew) (by go_simp) ?_;refine g.mono ?_;rintro e Wa ⟨rfl, aj, ab, o⟩;clear g;rw [QR Ho.out];have an : n < t1.vals.length := by rw [aa.out]; exact (La.1 HV.out).1
 have s := AiI L z.out t1 aj n ty v _ Wa ab HV.out Hz.out (Lb an) Hf.out;rw [ah.out] at s;have l := HX.out.go z.out ((RChg.below ⟨rfl, rfl, rfl, Nat.le_refl _, fun _ _ => rfl⟩ : RChg L c W c W.drew).trans o);have y := Lh (HC.out.trans ((RChg.below ⟨rfl, rfl, rfl, Nat.le_refl _, fun _ _ => rfl⟩ : RChg L c W c W.drew).trans o));refine k _ _ ?_;simp only [Act.put, Qa, Qb, Qc];refine ⟨l.2, ?_⟩;clear ab o hS;(refine wpAnyH_all (rs := [7]) (by kernel_rfl) (by simp) (fun i hi => ?_); obtain rfl : i = 7 := by simpa using hi);refine Qf rfl rfl (fun K2 k => ?_);refine JS 249 #[.pointer (some ⟨L.M, 0, none⟩), .int .i64 d, .int .i64 (-1), .int .i64 v] (w1 := Wa) (by go_simp) ?_;refine s.mono ?_;rintro e Wb ⟨⟨u, rfl⟩, ak, ac, r⟩;refine k _ _ ?_;simp only [Act.put, Qa, Qb, Qc];refine ⟨(l.go z.out r).2, ?_⟩;refine wpAnyH_done (by kernel_rfl) ?_ _;have ag := Lh ac;have ae := Lh (y.out.trans r);have ai : Hid ((t1.setv d v).out = none) := Ho.out;clear ac r s l y x0 x1 HX Hm HC;go_wp2
 go_end0
 exact ⟨(JM ai.out).symm, ak, ag.out, ae.out⟩
theorem AcE (L : Lay) (hL : DOk L) (x : Nd) (a b : Tr) (t s' : Ms) (vs : List Int) (ht : x.tag = 22) (ho : t.out = none) (hch : Ke L [a, b] t vs s') (ho2 : s'.out.isSome = true) : DoD L x [a, b] t s' := by
 obtain ⟨tag, nn⟩ := x;dsimp only at ht ⊢;subst ht;have r := Lh hch;have Ho := Lh ho;have u := Lh ho2;clear ho hch ho2;intro q c W0 j h;have HL := Lh hL;have p := Lh j;have g := Lh h;have ab := hL.blen;have ac := j.lt;have aa : IntKind.i64.wrap ((q : Int) + 1) = (q : Int) + 1 := IntWalk.i64_in _ (by omega);clear h j hL ac ab;go_enter Tryz.func193, Tryz.ntmps193
 go_wp2_with (refine Qn _ _ rfl ?_)
 refine Stop.to ?_;refine Qe rfl 85 _ rfl #[.int .i64 22, .int .i64 nn] rfl ?_;intro X W n m y;have hm := g.out.below HL.out (y.mono n);have Hm := Lh hm;have HX : Hid (FRow L c W X 85 #[.int .i64 22, .int .i64 nn]) := ⟨g.out.far_new n m.lt, m⟩;have HC : Hid (RChg L c W0 c W) := RChg.below (y.mono n);have x0 := m.cellv (i := 0) (v := .int .i64 22) rfl;have x1 := m.cellv (i := 1) (v := .int .i64 nn) rfl;clear hm n m y g;go_wp2_with fail
 refine (Eb L HL.out [a, b] q t s' vs 2 rfl c W Hm.out p.out.kids r.out Ho.out (by simp)).mono ?_;rintro e Wa ⟨z, l, k, hr⟩;have o := Lh (HC.out.trans k);have s := Lh l;clear l k Hm HC HX x0 x1 aa;rcases hr with ⟨ok, ox, d, rfl⟩ | ⟨d, v, rfl, _⟩
 · simp only [Q7];have w := Lh d;clear d;go_wp2
   exact ⟨rfl, (Ja w.out).symm, z, s.out, o.out⟩
 · exact absurd u.out (by rw [d]; simp)
theorem AiL (L : Lay) (hL : DOk L) (x : Nd) (a b : Tr) (t s2 : Ms) (v u ty : Int) (ht : x.tag = 22) (ho : t.out = none) (hch : Ke L [a, b] t [v, u] s2) (ho2 : s2.out = none) (hn0 : 0 ≤ x.n) (hV : L.p.V[x.n.toNat]? = some ty) (hz : Qy ty ≠ 0) (hs : LenS L.p.V s2) (hb : v < 0 ∨ ((s2.arr x.n).length : Int) ≤ v) : DoD L x [a, b] t (s2.stop 2 0) := by
 obtain ⟨tag, nn⟩ := x;dsimp only at ht ⊢;subst ht;dsimp only at hn0 hV hb ⊢;obtain ⟨n, rfl⟩ : ∃ n : Nat, nn = (n : Int) := ⟨nn.toNat, by omega⟩;rw [Li] at hV;have w : ∀ (ev : Value) (W : World), DR L s2 ev W → _ := fun ev W h => Aha L hL s2 ev n ty v u W h hV hz hs hb
 generalize au : (n : Int) = nn at w;have al := Lh w;have an := Lh hch;have Ho := Lh ho;have ap := Lh ho2;clear au hV hz hs hb ho ho2 hch hn0 w;intro q j W0 aa h;have HL := Lh hL;have am := Lh aa;have r := Lh h;have ar := hL.blen;have aw := aa.lt;have aq : IntKind.i64.wrap ((q : Int) + 1) = (q : Int) + 1 := IntWalk.i64_in _ (by omega);clear h aa hL aw ar;go_enter Tryz.func193, Tryz.ntmps193
 go_wp2_with (refine Qn _ _ rfl ?_)
 refine Stop.to ?_;refine Qe rfl 85 _ rfl #[.int .i64 22, .int .i64 nn] rfl ?_;intro X W hX rX b1;have hm := r.out.below HL.out (b1.mono hX);have Hm := Lh hm;have HX : Hid (FRow L j W X 85 #[.int .i64 22, .int .i64 nn]) := ⟨r.out.far_new hX rX.lt, rX⟩;have HC : Hid (RChg L j W0 j W) := RChg.below (b1.mono hX);have x0 := rX.cellv (i := 0) (v := .int .i64 22) rfl;have x1 := rX.cellv (i := 1) (v := .int .i64 nn) rfl;clear hm hX rX b1 r;go_wp2_with fail
 refine (Eb L HL.out [a, b] q t s2 [v, u] 2 rfl j W Hm.out am.out.kids an.out Ho.out (by simp)).mono ?_;rintro e y ⟨c, aj, ab, hr⟩;rcases hr with ⟨ok, ox, av, rfl⟩ | ⟨_, lv, rfl, m⟩
 · exact absurd av (by rw [ap.out]; simp)
 obtain ⟨A, ay, rfl, ac⟩ := m.frd;obtain ⟨ad, rfl, d⟩ := Q9 (k := 0) (x := v) ac.1 rfl;obtain ⟨ax, z, g⟩ := Q9 (k := 1) (x := u) ac.1 rfl;injection z with z;subst z;replace d : y.cell? ad = some (.int .i64 v) := d;replace g : y.cell? ⟨ad.block, ad.off + 1, none⟩ = some (.int .i64 u) := by simpa [Addr.add] using g
 have o := Lh (HX.out.go HL.out ab);have ae := Lh (HC.out.trans ab);have ag := Lh aj;have x0 := o.out.2.cellv (i := 0) (v := .int .i64 22) rfl;have x1 := o.out.2.cellv (i := 1) (v := .int .i64 nn) rfl;clear aj ab Hm HC HX aq ac m;go_wp2_with fail
 refine QE 9 (by kernel_rfl) (by kernel_rfl) ?_;simp only [Lw, L5, Lv, L1];have l : ∀ a u, y.cell? a = some u → y.drew.cell? a = some u := fun _ _ h => h
 replace x1 := l _ _ x1;replace d := l _ _ d;replace g := l _ _ g;have ai : RChg L c y c y.drew := RChg.below ⟨rfl, rfl, rfl, Nat.le_refl _, fun _ _ => rfl⟩;have af := Lh (ae.out.trans ai);have s := Lh (ag.out.drew1 HL.out);clear l ai ae ag o x0;generalize y.drew = Wd at *
 repeat still_step
 refine wpStill_nil ?_;go_wp2_with fail
 refine (al.out c Wd s.out).mono ?_;rintro e Wb ⟨rfl, bb⟩;have ao := Lh (s.out.below HL.out bb);have ah : RChg L c Wd c Wb := RChg.below bb;have ak := Lh (af.out.trans ah);clear bb ah s af x1 d g;simp only [Q7];go_wp2
 exact ⟨rfl, rfl, c, ao.out.stop _ _, ak.out⟩
theorem Akt (L : Lay) (hL : DOk L) (x : Nd) (a b : Tr) (t s2 : Ms) (v u ty : Int) (ht : x.tag = 22) (ho : t.out = none) (hch : Ke L [a, b] t [v, u] s2) (ho2 : s2.out = none) (hn0 : 0 ≤ x.n) (hV : L.p.V[x.n.toNat]? = some ty) (hz : Qy ty ≠ 0) (hs : LenS L.p.V s2) (hb : ¬ (v < 0 ∨ ((s2.arr x.n).length : Int) ≤ v)) (hf : s2.evs.length < s2.steps) : DoD L x [a, b] t (s2.seta x.n v u) := by
 obtain ⟨tag, m⟩ := x;dsimp only at ht ⊢;subst ht;dsimp only at hn0 hV hb ⊢;obtain ⟨n, rfl⟩ : ∃ n : Nat, m = (n : Int) := ⟨m.toNat, by omega⟩;rw [Li] at hV;have w : ∀ (ev : Value) (W : World), DR L s2 ev W → _ := fun ev W h => AiH L hL s2 ev n ty v u W h hV hz hs hb hf
 generalize ay : (n : Int) = m at w ⊢;have ap := Lh w;have ar := Lh hch;have Ho := Lh ho;have aj := Lh ho2;clear ay hV hz hs hb ho ho2 hch hn0 hf w;intro q g W0 ab h;have HL := Lh hL;have aq := Lh ab;have r := Lh h;have ax := hL.blen;have a0 := ab.lt;have aw : IntKind.i64.wrap ((q : Int) + 1) = (q : Int) + 1 := IntWalk.i64_in _ (by omega);clear h ab hL a0 ax;go_enter Tryz.func193, Tryz.ntmps193
 go_wp2_with (refine Qn _ _ rfl ?_)
 refine Stop.to ?_;refine Qe rfl 85 _ rfl #[.int .i64 22, .int .i64 m] rfl ?_;intro X W hX rX b1;have hm := r.out.below HL.out (b1.mono hX);have Hm := Lh hm;have HX : Hid (FRow L g W X 85 #[.int .i64 22, .int .i64 m]) := ⟨r.out.far_new hX rX.lt, rX⟩;have HC : Hid (RChg L g W0 g W) := RChg.below (b1.mono hX);have x0 := rX.cellv (i := 0) (v := .int .i64 22) rfl;have x1 := rX.cellv (i := 1) (v := .int .i64 m) rfl;clear hm hX rX b1 r;go_wp2_with fail
 refine (Eb L HL.out [a, b] q t s2 [v, u] 2 rfl g W Hm.out aq.out.kids ar.out Ho.out (by simp)).mono ?_;rintro e y ⟨z, am, ac, hr⟩;rcases hr with ⟨ok, ox, az, rfl⟩ | ⟨_, lv, rfl, l⟩
 · exact absurd az (by rw [aj.out]; simp)
 obtain ⟨A, a2, rfl, ae⟩ := l.frd;obtain ⟨ad, rfl, c⟩ := Q9 (k := 0) (x := v) ae.1 rfl;obtain ⟨a1, aa, d⟩ := Q9 (k := 1) (x := u) ae.1 rfl;injection aa with aa;subst aa;replace c : y.cell? ad = some (.int .i64 v) := c;replace d : y.cell? ⟨ad.block, ad.off + 1, none⟩ = some (.int .i64 u) := by simpa [Addr.add] using d
 have o := Lh (HX.out.go HL.out ac);have af := Lh (HC.out.trans ac);have ah := Lh am;have x0 := o.out.2.cellv (i := 0) (v := .int .i64 22) rfl;have x1 := o.out.2.cellv (i := 1) (v := .int .i64 m) rfl;clear am ac Hm HC HX aw ae l;go_wp2_with fail
 refine QE 9 (by kernel_rfl) (by kernel_rfl) ?_;simp only [Lw, L5, Lv, L1];have j : ∀ a u, y.cell? a = some u → y.drew.cell? a = some u := fun _ _ h => h
 replace x1 := j _ _ x1;replace c := j _ _ c;replace d := j _ _ d;have al : RChg L z y z y.drew := RChg.below ⟨rfl, rfl, rfl, Nat.le_refl _, fun _ _ => rfl⟩;have ag := Lh (af.out.trans al);have ai := Lh (ah.out.drew1 HL.out);clear j al af ah o x0;generalize y.drew = Wd at *
 repeat still_step
 refine wpStill_nil ?_;go_wp2_with fail
 refine (ap.out z Wd ai.out).mono ?_;rintro e Wb ⟨⟨uu, rfl⟩, av, an, ak⟩;have au := Lh an;have ao := Lh (ag.out.trans ak);clear an ak ai ag x1 c d;go_wp2
 go_end0
 exact ⟨(JM (s := s2.seta m v u) aj.out).symm, av, au.out, ao.out⟩
def stepsIn (L : Lay) (W : World) : Nat := (intOf ((W.cell? ⟨L.M, 5, none⟩).getD (.int .i64 0))).toNat
theorem DR.stepsIn {L : Lay} {s : Ms} {ev : Value} {W : World} (h : DR L s ev W) : stepsIn L W = s.steps := by
 unfold Go.Proofs.YtdcmppdhdcjpfaaGreat.stepsIn;rw [h.row.cellv (i := 5) (v := .int .i64 (s.steps : Int)) rfl];simp [intOf]
theorem Akg {L : Lay} {a b : Tr} {t s' : Ms} (h : WhD L a b t s') : ∃ v t1, EntD L a t v t1 ∧ ((t1.out.isSome = true ∧ s' = t1) ∨ (t1.out = none ∧ v ≠ 1 ∧ s' = t1) ∨ (t1.out = none ∧ v = 1 ∧ ∃ u t2, EntD L b t1 u t2 ∧ ((t2.out.isSome = true ∧ s' = t2) ∨ (t2.out = none ∧ t2.fuel = 0 ∧ s' = t2.stop 4 0) ∨ (t2.go ∧ t.steps ≤ t2.steps ∧ WhD L a b t2.tick s')))) := by
 cases h with
 | cut h1 ho => exact ⟨_, _, h1, .inl ⟨ho, rfl⟩⟩
 | done h1 ho hv => exact ⟨_, _, h1, .inr (.inl ⟨ho, hv, rfl⟩)⟩
 | cut2 h1 ho h2 ho2 => exact ⟨_, _, h1, .inr (.inr ⟨ho, rfl, _, _, h2, .inl ⟨ho2, rfl⟩⟩)⟩
 | empty h1 ho h2 ho2 hf => exact ⟨_, _, h1, .inr (.inr ⟨ho, rfl, _, _, h2, .inr (.inl ⟨ho2, hf, rfl⟩)⟩)⟩
 | more h1 ho h2 hg hle h3 => exact ⟨_, _, h1, .inr (.inr ⟨ho, rfl, _, _, h2, .inr (.inr ⟨hg, hle, h3⟩)⟩)⟩
theorem Abs (L : Lay) (hL : DOk L) (x : Nd) (a b : Tr) (t s' : Ms) (ht : x.tag = 24) (hw : WhD L a b t s') : DoD L x [a, b] t s' := by
 obtain ⟨tag, nn⟩ := x;dsimp only at ht ⊢;subst ht;have Hw := Lh hw;have hF := hL.F;clear hw;intro q ac W0 ar h;have y := Lh hL;have ao := Lh ar;have m := Lh h;have bg := hL.blen;have bi := ar.lt;have bm : IntKind.i64.wrap ((q : Int) + 1) = (q : Int) + 1 := IntWalk.i64_in _ (by omega);clear h ar hL bi bg;go_enter Tryz.func193, Tryz.ntmps193
 go_wp2_with (refine Qn _ _ rfl ?_)
 refine Stop.to ?_;refine Qe rfl 85 _ rfl #[.int .i64 24, .int .i64 nn] rfl ?_;intro X W hX rX b1;have hm := m.out.below y.out (b1.mono hX);have l := Lh hm;have z : Hid (FRow L ac W X 85 #[.int .i64 24, .int .i64 nn]) := ⟨m.out.far_new hX rX.lt, rX⟩;have o : Hid (RChg L ac W0 ac W) := RChg.below (b1.mono hX);have x0 := rX.cellv (i := 0) (v := .int .i64 24) rfl;have x1 := rX.cellv (i := 1) (v := .int .i64 nn) rfl;clear hm hX rX b1 m;obtain ⟨qn, a5, am⟩ := VD ao.out (i := 1) (k := b) rfl;have bc := Lh a5;have a1 := Lh am;clear a5 am;go_wp2_with fail
 go_loopw [] (fun wr => ∃ (sk : Ms) (aj : Value), Hid (WhD L a b sk s') ∧ Hid (DR L sk aj wr) ∧ Hid (RChg L ac W0 aj wr) ∧ Hid (FRow L aj wr X 85 #[.int .i64 24, .int .i64 nn])) (fun wr => L.F - stepsIn L wr)
 case atStart => exact ⟨t, ac, Hw, l, o, z⟩
 case round =>
  clear Hw l o z x0 x1;obtain ⟨sk, aj, Hw, l, o, z⟩ := hrel;have a6 := l.out.stepsIn;obtain ⟨v, t1, h1, al⟩ := Akg Hw.out;have bd := Lh a6;have p := Lh al;have c := Lh (EntD.at1 h1 ao.out.kids.head l.out);clear a6 h1 al;go_wp2_with fail
  refine c.out.mono ?_;rintro e Wa ⟨rfl, r, a4, av⟩;replace z := Lh (z.out.go y.out av);replace o := Lh (o.out.trans av);clear c l;have l := Lh a4;clear a4 av;rcases p.out with ⟨j, rfl⟩ | ⟨j, a7, rfl⟩ | ⟨j, rfl, u, w, h2, ad⟩
  · clear p;obtain ⟨⟨ok, ox⟩, n⟩ := LK.1 j;rw [Zl n];simp only [Q7];have ap := Lh n;clear n j;go_wp2
    exact ⟨rfl, (Ja ap.out).symm, r, l.out, o.out⟩
  · rw [QR j];have ba := Lh j;have bl : (v == 1) = false := by simpa using a7
    have x0 := z.out.2.cellv (i := 0) (v := .int .i64 24) rfl;clear j a7 p;go_wp2
    go_end0
    exact ⟨(JM ba.out).symm, r, l.out, o.out⟩
  · rw [QR j];have g := Lh ad;have H2 := Lh h2;clear j p ad h2;go_wp2_with fail
    refine (Ae6 L y.out t1 r q _ [a, b] 1 1 rfl qn Wa l.out ao.out bc.out).mono ?_;rintro e Wb ⟨rfl, bb⟩;have aa := Lh (l.out.below y.out bb);have aw : RChg L r Wa r Wb := RChg.below bb;have ah := Lh (o.out.trans aw);have ai := Lh (z.out.go y.out aw);clear bb aw l o z;have c := Lh (H2.out qn r Wb a1.out aa.out);go_wp2_with fail
    refine c.out.mono ?_;rintro e Wc ⟨rfl, d, af, ax⟩;have l := Lh af;have o := Lh (ah.out.trans ax);have z := Lh (ai.out.go y.out ax);have c2 := af.row.cellv (i := 2) (v := .int .i64 (L.F : Int)) rfl;have c5 := af.row.cellv (i := 5) (v := .int .i64 (w.steps : Int)) rfl;have an := af.sum;clear af ax aa ah ai c;rcases g.out with ⟨s, rfl⟩ | ⟨s, bh, rfl⟩ | ⟨ae, a3, a8⟩
    · clear g c2 c5;obtain ⟨⟨ok, ox⟩, n⟩ := LK.1 s;rw [Zl n];simp only [Q7];have ap := Lh n;clear n s;go_wp2
      exact ⟨rfl, (Ja ap.out).symm, d, l.out, o.out⟩
    · rw [QR s];have hd : L.F ≤ w.steps := by omega
      have bk := Lh s;clear s bh an g;go_wp2_with fail
      go_quiet (fail)
      go_wp2_with fail
      refine (YF _ _ _).mono ?_;rintro e w' ⟨rfl, rfl⟩;simp only [Q7];clear c2 c5;go_wp2
      exact ⟨rfl, rfl, d, (l.out.drew y.out _).stop _ _, o.out.trans (.below ⟨rfl, rfl, rfl, Nat.le_refl _, fun _ _ => rfl⟩)⟩
    · rw [QR ae.1];have hd : ¬ L.F ≤ w.steps := by have := ae.2; omega
      have bf : IntKind.i64.wrap ((w.steps : Int) + 1) = (w.steps : Int) + 1 := IntWalk.i64_in _ (by omega);have ag : w.tick.steps + w.tick.fuel = L.F := by have := ae.2; simp only [Ms.tick]; omega
      have bj := Lh ae;have a2 := Lh ag;have be := Lh a8;have a9 := Lh a3;clear ae a8 a3 g an ag;go_wp2_with fail
      go_quiet (fail)
      obtain ⟨ab, ak⟩ : ∃ ab, ab = Wc.drewN nq := ⟨_, rfl⟩;rw [← ak];have ay : DR L w d ab := by rw [ak]; exact l.out.drew y.out _
      have au : RChg L d Wc d ab := by rw [ak]; exact .below ⟨rfl, rfl, rfl, Nat.le_refl _, fun _ _ => rfl⟩
      have a0 := Lh (z.out.go y.out au);have az := Lh (o.out.trans au);have m := Lh ay;replace c5 := ay.row.cellv (i := 5) (v := .int .i64 (w.steps : Int)) rfl;clear ay au ak c2 l z o hd;go_wp2_with (refine Qs _ _ _ rfl ?_)
      refine Stop.to ?_;refine Qp rfl 3 _ _ rfl L.M 5 rfl _ rfl [.int .i64 ((w.steps : Int) + 1)] rfl 108 _ (L.dcells w.tick d) m.out.row (by kernel_rfl) (by show 5 + 1 ≤ 7; omega) (by simp [Value.oneCell']) rfl ?_;intro W2 r2 o2;have m2 : DR L w.tick d W2 := m.out.setM y.out o2 r2 rfl rfl rfl a2.out (by simp [Ms.tick]);have aq : RChg L d ab d W2 := RChg.only o2 (.inl rfl);have ai := Lh (a0.out.go y.out aq);have ah := Lh (az.out.trans aq);have aa := Lh m2;clear r2 o2 m2 aq c5 m az a0 bf;go_wp2_with fail
      refine ⟨?_, ?measure⟩
      · repeat apply Exists.intro
        refine ⟨?_, rfl⟩;exact ⟨w.tick, d, be, aa, ah, ai⟩
      case measure => rw [aa.out.stepsIn, bd.out]; have := a9.out; have := a2.out; simp only [Ms.tick] at this ⊢; omega
end Go.Proofs.YtdcmppdhdcjpfaaGreat
