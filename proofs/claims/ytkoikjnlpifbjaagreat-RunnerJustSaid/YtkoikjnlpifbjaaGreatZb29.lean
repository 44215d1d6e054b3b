/- Lemmas for RunnerJustP. -/
import Derived.Test.YtkoikjnlpifbjaaGreatZb1
import Derived.Test.YtkoikjnlpifbjaaGreatZb28
import Derived.Test.YtkoikjnlpifbjaaGreatZb26
import Derived.Test.YtkoikjnlpifbjaaGreatZb6
import Derived.WalkMore
set_option linter.unusedVariables false
set_option linter.unusedSimpArgs false
set_option maxRecDepth 100000
set_option maxHeartbeats 16000000
namespace Go.Proofs.YtkoikjnlpifbjaaGreat
open Go.RowKit Go.Deep
theorem Afc {w : World} {b : Nat} {v : Value} {l vs : List Int} {a : Int} (h : w.ownsRow b 3 1 v l.length (Qj l)) (hl : l = a :: vs) : ∃ vd n cap c, v = .slice (some vd) (n + 1) cap ∧ w.cell? vd = some (.int .i64 c) ∧ c = a := by
 obtain ⟨g, cap, m, d, e⟩ := UQ h hl;exact ⟨_, m, cap, a, d, e, rfl⟩
theorem Agu (L : Lay) (hL : LOk L) (s : Ms) (x : FrV) (rs : List FrV) (sv ev : Value) (SB cap : Nat) (cur : Array Value) (W : World) (hm : MR L s (x :: rs) sv ev W) (ht : Top L W x rs sv SB cap cur) (hf : FOk L.p.body x.f) (i q : Nat) (hi : NextK x.f i) (hq : (Zk (x.f.at_ + 1) x.f.t.kids)[i]? = some q) :
 Calls Tryz.prog 112 #[.pointer (some ⟨L.M, 0, none⟩), .pointer (some ⟨SB, rs.length * 3, none⟩)] W fun e W' => ∃ n, e = .returned (.tuple #[.int .i64 (q : Int), .bool true]) ∧ W' = W.drewN n := by
 have few := hf.few;have y := hf.kid;obtain ⟨kd, h⟩ := Ak8 hL hm ht hf.hat (by omega);have z := hm.core.fr x (by simp);rcases hi.how with ⟨l, k, v, vs, o, j, m⟩ | ⟨rfl, hn, ha⟩
 · obtain ⟨w, n, c, u, b, g, rfl⟩ := Afc z o;exact Adl L SB _ _ _ _ _ kd _ _ i q u w n c W h hq l k b g j m
 · refine AeM L SB _ _ _ _ _ kd _ _ q W h hi.lt hq hn (fun k d => ?_);obtain ⟨v, vs, o, hs⟩ := ha k d;obtain ⟨w, n, c, u, b, g, rfl⟩ := Afc z o;exact ⟨w, n, c, u, b, g, hs⟩
theorem AhN (L : Lay) (hL : LOk L) (s : Ms) (x : FrV) (rs : List FrV) (sv ev : Value) (SB cap : Nat) (cur : Array Value) (W : World) (hm : MR L s (x :: rs) sv ev W) (ht : Top L W x rs sv SB cap cur) (hf : FOk L.p.body x.f) (hi : NextNo x.f) :
 Calls Tryz.prog 112 #[.pointer (some ⟨L.M, 0, none⟩), .pointer (some ⟨SB, rs.length * 3, none⟩)] W fun e W' => ∃ n, e = .returned (.tuple #[.int .i64 0, .bool false]) ∧ W' = W.drewN n := by
 have few := hf.few;have g := hf.kid;obtain ⟨o, h⟩ := Ak8 hL hm ht hf.hat (by omega);have m := hm.core.fr x (by simp);refine Adm L SB _ _ _ _ _ o _ _ W h ?_;rcases hi.how with ⟨b, v, u, l, k⟩ | ⟨b, j⟩
 · obtain ⟨t, n, c, q, d, i, rfl⟩ := Afc m l;exact .inl ⟨b, t, n, c, q, d, i, k⟩
 · exact .inr ⟨b, j⟩
theorem MR.more {L : Lay} {s : Ms} {x : FrV} {rs : List FrV} {sv ev : Value} {W W' : World} {SB cap : Nat} {cur : Array Value} (h : MR L s (x :: rs) sv ev W) (hL : LOk L) (ht : Top L W x rs sv SB cap cur) (o : Only SB W W') (hr : Row W' SB 187 (ZQ cur (rs.length * 3 + 1) [.int .i64 ((x.f.kid + 1 : Nat) : Int)])) : MR L s (⟨x.f.more, x.v⟩ :: rs) sv ev W' := by
 have b := ht.lo;have g := ht.put (x' := ⟨x.f.more, x.v⟩) (j := 1) (u := .int .i64 ((x.f.kid + 1 : Nat) : Int)) (by decide) rfl hr;have c : SB ≠ L.M := by have := hL.lt; omega
 have k := h.core.onlyStack hL o ht.row b;refine ⟨h.row.only o (fun e => c e.symm), g.own, ⟨k.evs, k.vals, k.arrs, fun y d => ?_, ?_, k.im, k.size, k.sum, by have := k.few; simpa using this⟩⟩
 · rcases L2.1 d with rfl | d
   · exact k.fr x (by simp)
   · exact k.fr y (by simp [d])
 · exact Nl.2 ⟨(Nl.1 k.dist).1, (Nl.1 k.dist).2⟩
def Ka (V args : List Int) : List Int := (List.range V.length).map fun i => args.getD i 0
def AaP (V : List Int) : List (List Int) := V.map fun t => List.replicate (QY t).toNat 0
def Z3 (V args : List Int) (F : Nat) : Ms := ⟨Ka V args, AaP V, F, 0, [], none⟩
structure LNew (B : Nat) (L : Lay) : Prop where
 m : B ≤ L.M
 b1 : B ≤ L.b1
 vv : ∀ g, L.vv.ownBlock = some g → B ≤ g
 ab : ∀ g ∈ L.ab, B ≤ g
theorem Chg.new {L : Lay} {B : Nat} {W W' : World} (h : Chg L W W') (n : LNew B L) : Below B W W' :=
 ⟨h.os, h.tape, h.output, h.size, fun k hk => h.block k (by have := n.b1; omega) (by have := n.m; omega) (fun e => by have := n.vv k e; omega) (fun e => by have := n.ab k e; omega)⟩
structure LoadR (p : PgV) (args : List Int) (F : Nat) (w w' : World) (e : Ending) : Prop where
 ex : ∃ L : Lay, e = .returned (.pointer (some ⟨L.M, 0, none⟩)) ∧ L.p = p ∧ L.F = F ∧ LOk L ∧ MRx L ⟨Z3 p.V args F, []⟩ w' ∧ Below w.heap.size w w' ∧ LNew w.heap.size L
theorem LenS.init (V args : List Int) (F : Nat) : LenS V (Z3 V args F) := by
 refine ⟨by simp [Z3, Ka], by simp [Z3, AaP], fun i t a c b => ?_⟩;simp only [Z3, AaP, L6, c, Ns, No] at b;subst b;rw [Nu];unfold QY;split <;> omega
def RP (L : Lay) (fin : Mm) (W : World) (n : Nat) : Prop := ∃ m, SOk L.p.body m.stack ∧ LenS L.p.V m.s ∧ MRx L m W ∧ ReachN n m fin
theorem YU {w : World} : (zeroValue 114).run Tryz.prog w = .ok (.agg #[.int .i64 0, .int .i64 0, .int .i64 0, .slice none 0 0]) w := by kernel_rfl
theorem Vc {L : Lay} {s : Ms} {fs : List FrV} {sv ev : Value} {W : World} (h : MR L s fs sv ev W) (j : Nat) (v : Value) (hj : ([.int .i64 (s.out.getD (0, 0)).1, .int .i64 (s.out.getD (0, 0)).2, .int .i64 (s.steps : Int), ev] : List Value)[j]? = some v) : W.cell? ((⟨L.M, 8, none⟩ : Addr).add j) = some v := by
 match j, hj with
 | 0, hj => injection hj with hj; subst hj; exact h.row.cellv (i := 8) rfl
 | 1, hj => injection hj with hj; subst hj; exact h.row.cellv (i := 9) rfl
 | 2, hj => injection hj with hj; subst hj; exact h.row.cellv (i := 10) rfl
 | 3, hj => injection hj with hj; subst hj; exact h.row.cellv (i := 11) rfl
 | j + 4, hj => cases hj
theorem VT (a b c : Int) {ev : Value} (h : ev.oneCell' = true) : (#[.int .i64 a, .int .i64 b, .int .i64 c, ev] : Array Value).all (·.oneCell') = true := by
 have : ([.int .i64 a, .int .i64 b, .int .i64 c, ev] : List Value).all (·.oneCell') = true := by
  rw [List.all_eq_true];intro u d;simp only [L2, L9, or_false] at d;rcases d with rfl | rfl | rfl | rfl
  · rfl
  · rfl
  · rfl
  · exact h
 simpa only [List.all_toArray] using this
structure RunR (fin : Mm) (w w' : World) (e : Ending) : Prop where
 ex : ∃ ev, e = .returned (.tuple #[.agg #[.int .i64 (fin.s.out.getD (0, 0)).1, .int .i64 (fin.s.out.getD (0, 0)).2, .int .i64 (fin.s.steps : Int), ev], .int .i64 0]) ∧ w'.ownsRow w.heap.size 263 3 ev fin.s.evs.length (fin.s.evs.flatMap EvV.cells) ∧ Below w.heap.size w w'
theorem AhO (p : PgV) (t : Tr) (aa : Option Addr) (acap : Nat) (args : List Int) (fuel : Int) (fin : Mm) (w : World) (hbl : p.body.length ≤ 1000) (hn : args.length ≤ 1000) (hok : p.ok w) (hg : Good p t)
 (hc : Zs p args.length fuel = 0)
 (hld : ∀ w', p.ok w' → Below w.heap.size w w' → Calls Tryz.prog 109 #[.agg p.cells, .slice aa args.length acap, .int .i64 fuel] w' fun e w'' => LoadR p args fuel.toNat w' w'' e)
 (hfin : Reach (Z0 0 t ⟨Z3 p.V args fuel.toNat, []⟩) fin) (ho : fin.s.out.isSome = true) :
 Calls Tryz.prog 72 #[.agg p.cells, .slice aa args.length acap, .int .i64 fuel] w fun e w' => RunR fin w w' e := by
 have a5 := Lv hok;have Hg := Lv hg;have bg := Lv hbl;have Hn := Lv hn;have a4 := Lv hld;have aw := Lv hfin;have Ho := Lv ho;have Hc := Lv hc;clear hok hg hbl hn hld hfin ho hc;go_enter Tryz.func72, Tryz.ntmps72
 go_wp2_with (refine Qm _ _ rfl ?_)
 refine Stop.to ?_;refine Qe rfl 25 _ rfl p.cells rfl ?_;intro G w1 hG r1 b1;replace b1 := (Below.refl w.heap.size w).trans (b1.mono hG);clear hG;go_wp2_with (refine QE _ rfl ?_)
 refine Stop.to ?_;refine Qi rfl 114 rfl _ _ YU rfl ?_;intro RB w2 av rB b2;replace r1 := r1.below (b2.mono av) r1.lt;have al : w.heap.size ≤ RB := Li b1.size av;replace b2 := b1.trans ((b2.mono av).mono b1.size);have R1 := Lv r1;have a0 := Lv rB;have B2 := Lv b2;clear r1 b1 b2 rB av w1;go_wp2_with fail
 refine wp_scope_straight ?_;go_wp2_with (refine wpList_load_row rfl 25 _ rfl G rfl 25 p.cells (0, 0) _ R1.out Tryz.underlying25 rfl (by kernel_rfl) ?_)
 refine (EK p aa acap args.length fuel bg.out Hn.out w2 (a5.out.go B2.out)).mono ?_;rintro e w3 ⟨rfl, b3⟩;rw [Hc.out];have R3 := Lv (R1.out.below b3 R1.out.lt);have aq := Lv (a0.out.below b3 a0.out.lt);have B3 := Lv (B2.out.trans (b3.mono B2.out.size));clear b3 R1 a0 B2;go_wp2_with (refine wpList_load_row rfl 25 _ rfl G rfl 25 p.cells (0, 0) _ R3.out Tryz.underlying25 rfl (by kernel_rfl) ?_)
 refine (a4.out w3 (a5.out.go B3.out) B3.out).mono ?_;rintro e w4 ⟨L, rfl, bj, bn, hL, c, b4, ay⟩;subst bj;have HL := Lv hL;have y := Lv c;have d := Lv ay;have a6 := Lv (aq.out.below b4 aq.out.lt);have B4 := Lv (B3.out.trans (b4.mono B3.out.size));have ac := aq.out.lt;have af := B3.out.size;clear b4 aq B3 R3 hL c ay a4;go_wp2_with fail
 refine Calls.mono (show Calls Tryz.prog 111 #[.pointer (some ⟨L.M, 0, none⟩), .int .i64 0] w4 _ from Y8 L HL.out ⟨Z3 L.p.V args fuel.toNat, []⟩ 0 t w4 y.out) ?_;rintro e w5 ⟨⟨u, rfl⟩, h5, g5⟩;obtain ⟨n0, bb⟩ := aw.out.count;have be : RP L fin w5 n0 := ⟨_, (SOk.nil _).enter (fun g hg => by simp at hg) Hg.out.hat, (LenS.init _ _ _).enter, h5, bb⟩;have a8 := Lv be;have a2 := g5.new d.out;have a7 := Lv (a6.out.below a2 ac);have B5 := Lv (B4.out.trans (a2.mono af));clear h5 g5 bb be a2 a6 B4 y aw;go_wp2_with fail
 refine wp_label ?_;go_wp2_with fail
 go_loopw [11, 12, 13] (fun _ _ _ W => Hid (∃ n, RP L fin W n) ∧ Hid (Row W RB 114 #[.int .i64 0, .int .i64 0, .int .i64 0, .slice none 0 0]) ∧ Hid (Below w.heap.size w W)) (fun _ _ _ W => AbN (RP L fin W))
 case atStart => exact ⟨Lv ⟨n0, a8.out⟩, a7, B5⟩
 case round =>
  obtain ⟨bd, b, z⟩ := hrel;obtain ⟨⟨m, bf, lens, am, bc⟩, ax⟩ := Yu bd.out;clear a8 a7 B5 bd;obtain ⟨fs, sv, ev, ad, c⟩ := am;have ab := c.row.cellv (i := 12) (v := .bool m.s.out.isSome) rfl;have c7 := c.row.cellv (i := 7) (v := sv) rfl;have y := Lv c;generalize hN : AbN (RP L fin wr) = N at bc ax;have HN := Lv hN;clear hN;cases bc with
  | refl =>
   rw [Ho.out] at ab;have ae := Kg c.core.evs;have ai := Lv ae;clear ae
   go_wp2_with (first
    | (refine QF rfl 114 _ rfl ⟨L.M, 8, none⟩ rfl [.int .i64 (fin.s.out.getD (0, 0)).1, .int .i64 (fin.s.out.getD (0, 0)).2, .int .i64 (fin.s.steps : Int), ev] _ (Vc y.out) Tryz.underlying114 rfl (by kernel_rfl) ?_)
    | (refine Qk rfl 114 _ _ rfl RB #[.int .i64 (fin.s.out.getD (0, 0)).1, .int .i64 (fin.s.out.getD (0, 0)).2, .int .i64 (fin.s.steps : Int), ev] rfl rfl 114 _ b.out (by kernel_rfl) rfl (VT _ _ _ ai.out) ?_; intro W9 r9 o9))
   rw [Exit.noGoto_ret];refine bodyPost_ret (QN Tryz.results72 _ _ RB 114 _ (0, 0) _ rfl r9 Tryz.underlying114 rfl (by kernel_rfl)) rfl ?_;exact ⟨ev, rfl, QQ (QB c.core.evs o9 (QD c.core.evs b.out (by decide))) (Li af d.out.b1), Ql z.out o9 al⟩
  | step n _ m' _ ho hst hr =>
   rw [ho] at ab;replace ab : wr.cell? ⟨L.M, 12, none⟩ = some (.bool false) := ab;have o := Lv bf;have aj := Lv lens;clear ax bf lens;cases hst with
   | done s =>
    obtain rfl : fs = [] := by simpa using ad
    cases hr with
    | step n _ m' _ ho2 hst2 hr2 => cases ho2
    | refl =>
     have an := c.stack;clear c ad;rcases an.2 with ⟨ao, _⟩ | ⟨g, ar, au, ao, _⟩
     · rw [ao] at c7;clear ao an;go_wp2_with fail
       refine Calls.mono (XN L HL.out ⟨s, []⟩ 3 0 wr ⟨[], sv, ev, rfl, y.out⟩) ?_;rintro e W7 ⟨⟨u7, rfl⟩, ⟨bi, bl, ag, a9, c⟩, g7⟩;have g8 := g7.new d.out;replace b := Lv (b.out.below g8 ac);replace z := Lv (z.out.trans (g8.mono af));clear y g7 g8 c7 ab;have y := Lv c;have ae := Kg c.core.evs;have ai := Lv ae;clear ae
       go_wp2_with (first
        | (refine QF rfl 114 _ rfl ⟨L.M, 8, none⟩ rfl [.int .i64 ((s.stop 3 0).out.getD (0, 0)).1, .int .i64 ((s.stop 3 0).out.getD (0, 0)).2, .int .i64 ((s.stop 3 0).steps : Int), ag] _ (Vc y.out) Tryz.underlying114 rfl (by kernel_rfl) ?_)
        | (refine Qk rfl 114 _ _ rfl RB #[.int .i64 ((s.stop 3 0).out.getD (0, 0)).1, .int .i64 ((s.stop 3 0).out.getD (0, 0)).2, .int .i64 ((s.stop 3 0).steps : Int), ag] rfl rfl 114 _ b.out (by kernel_rfl) rfl (VT _ _ _ ai.out) ?_; intro W9 r9 o9))
       rw [Exit.noGoto_ret];refine bodyPost_ret (QN Tryz.results72 _ _ RB 114 _ (0, 0) _ rfl r9 Tryz.underlying114 rfl (by kernel_rfl)) rfl ?_;exact ⟨ag, rfl, QQ (QB c.core.evs o9 (QD c.core.evs b.out (by decide))) (Li af d.out.b1), Ql z.out o9 al⟩
     · rw [ao] at c7;clear ao an;go_wp2_with fail
       refine Calls.mono (XN L HL.out ⟨s, []⟩ 3 0 wr ⟨[], sv, ev, rfl, y.out⟩) ?_;rintro e W7 ⟨⟨u7, rfl⟩, ⟨bi, bl, ag, a9, c⟩, g7⟩;have g8 := g7.new d.out;replace b := Lv (b.out.below g8 ac);replace z := Lv (z.out.trans (g8.mono af));clear y g7 g8 c7 ab;have y := Lv c;have ae := Kg c.core.evs;have ai := Lv ae;clear ae
       go_wp2_with (first
        | (refine QF rfl 114 _ rfl ⟨L.M, 8, none⟩ rfl [.int .i64 ((s.stop 3 0).out.getD (0, 0)).1, .int .i64 ((s.stop 3 0).out.getD (0, 0)).2, .int .i64 ((s.stop 3 0).steps : Int), ag] _ (Vc y.out) Tryz.underlying114 rfl (by kernel_rfl) ?_)
        | (refine Qk rfl 114 _ _ rfl RB #[.int .i64 ((s.stop 3 0).out.getD (0, 0)).1, .int .i64 ((s.stop 3 0).out.getD (0, 0)).2, .int .i64 ((s.stop 3 0).steps : Int), ag] rfl rfl 114 _ b.out (by kernel_rfl) rfl (VT _ _ _ ai.out) ?_; intro W9 r9 o9))
       rw [Exit.noGoto_ret];refine bodyPost_ret (QN Tryz.results72 _ _ RB 114 _ (0, 0) _ rfl r9 Tryz.underlying114 rfl (by kernel_rfl)) rfl ?_;exact ⟨ag, rfl, QQ (QB c.core.evs o9 (QD c.core.evs b.out (by decide))) (Li af d.out.b1), Ql z.out o9 al⟩
   | kid s f r i q k hi hq hk =>
    obtain ⟨x, h, rfl⟩ : ∃ x h, fs = x :: h := by cases fs with
     | nil => simp at ad
     | cons x h => exact ⟨x, h, rfl⟩
    simp only [LQ, NG] at ad;obtain ⟨rfl, rfl⟩ := ad;obtain ⟨SB, ar, au, ht⟩ := Acd c.stack;have Ht := Lv ht;rw [ht.sve] at c7;have bk : h.length ≤ 20001 := by have h1 := c.few1; have h2 := c.core.sum; have h3 := HL.out.F; dsimp only at *; omega
    have a3 := ht.le;have am := ht.max;have e0 : (((h.length : Nat) : Int) + 1 == 0) = false := by simp; omega
    have ew : IntKind.i64.wrap (h.length : Int) = (h.length : Int) := IntWalk.i64_in _ (by omega);clear c ht;go_wp2_with fail
    go_quiet (fail)
    have hd : Below wr.heap.size wr (wr.drewN nq) := ⟨rfl, rfl, rfl, Nat.le_refl _, fun _ _ => rfl⟩;go_wp2_with fail
    refine (Agu L HL.out s x h sv ev SB ar au _ (y.out.drew HL.out nq) (Ht.out.below hd) (o.out.top _ _ rfl) i q hi hq).mono ?_;rintro e W2 ⟨nd, rfl, rfl⟩;have j : Below wr.heap.size wr ((wr.drewN nq).drewN nd) := ⟨rfl, rfl, rfl, Nat.le_refl _, fun _ _ => rfl⟩;have ah := y.out.below HL.out j;have l := Ht.out.below j;replace b := Lv (b.out.below j b.out.lt);replace z := Lv (z.out.trans (j.mono z.out.size));clear hd j y Ht c7 ab a3 am e0 ew;generalize (wr.drewN nq).drewN nd = W2 at ah l b z ⊢;have bo := (o.out.top _ _ rfl).few;have bm := (o.out.top _ _ rfl).kid;have c1 := l.cell 1 _ rfl;have bh : IntKind.i64.wrap ((x.f.kid : Int) + 1) = (x.f.kid : Int) + 1 := IntWalk.i64_in _ (by omega);go_wp2_with (refine Qp _ _ _ rfl ?_)
    refine Stop.to ?_;refine Qq rfl 3 _ _ rfl SB (h.length * 3 + 1) rfl _ rfl [.int .i64 ((x.f.kid : Int) + 1)] rfl 187 _ _ l.row (by kernel_rfl) (by have := l.hi; simp; omega) (by simp [Value.oneCell']) rfl ?_;intro W3 r3 o3;have ba := ah.more HL.out l o3 r3;have g3 : Chg L W2 W3 := .only o3 (.inl l.lo);have ap := (Step.kid s x.f _ i q k hi hq hk).ok o.out aj.out;have ak := Lv ap;have az := Lv ba;have G3 := Lv g3;clear c1 bh r3 o3 ah l ba g3 ap hi hq hk;go_wp2_with fail
    refine Calls.mono (Y8 L HL.out ⟨s, x.f.more :: h.map FrV.f⟩ q k W3 ⟨⟨x.f.more, x.v⟩ :: h, sv, ev, rfl, az.out⟩) ?_;rintro e W4 ⟨⟨u4, rfl⟩, h4, g4⟩;have g5 := (G3.out.trans g4).new d.out;have rp : RP L fin W4 n := ⟨_, ak.out.1, ak.out.2, h4, hr⟩;have Rp := Lv rp;have a1 := Lv (b.out.below g5 ac);have B7 := Lv (z.out.trans (g5.mono af));clear g5 g4 h4 rp;go_wp2_with fail
    go_roundw
    case rel => exact ⟨Lv ⟨n, Rp.out⟩, a1, B7⟩
    case measure =>
     have h2 := (Yu ⟨n, Rp.out⟩).2 n Rp.out;omega
   | fin s f r _ hno hf =>
    obtain ⟨x, h, rfl⟩ : ∃ x h, fs = x :: h := by cases fs with
     | nil => simp at ad
     | cons x h => exact ⟨x, h, rfl⟩
    simp only [LQ, NG] at ad;obtain ⟨rfl, rfl⟩ := ad;obtain ⟨SB, ar, au, ht⟩ := Acd c.stack;have Ht := Lv ht;rw [ht.sve] at c7;have bk : h.length ≤ 20001 := by have h1 := c.few1; have h2 := c.core.sum; have h3 := HL.out.F; dsimp only at *; omega
    have a3 := ht.le;have am := ht.max;have e0 : (((h.length : Nat) : Int) + 1 == 0) = false := by simp; omega
    have ew : IntKind.i64.wrap (h.length : Int) = (h.length : Int) := IntWalk.i64_in _ (by omega);clear c ht;go_wp2_with fail
    go_quiet (fail)
    have hd : Below wr.heap.size wr (wr.drewN nq) := ⟨rfl, rfl, rfl, Nat.le_refl _, fun _ _ => rfl⟩;go_wp2_with fail
    refine (AhN L HL.out s x h sv ev SB ar au _ (y.out.drew HL.out nq) (Ht.out.below hd) (o.out.top _ _ rfl) hno).mono ?_;rintro e W2 ⟨nd, rfl, rfl⟩;have j : Below wr.heap.size wr ((wr.drewN nq).drewN nd) := ⟨rfl, rfl, rfl, Nat.le_refl _, fun _ _ => rfl⟩;have ah := y.out.below HL.out j;have l := Ht.out.below j;replace b := Lv (b.out.below j b.out.lt);replace z := Lv (z.out.trans (j.mono z.out.size));clear hd j y Ht c7 ab a3 am e0 ew;generalize (wr.drewN nq).drewN nd = W2 at ah l b z ⊢;have ap := (Step.fin s x.f _ m' hno hf).ok o.out aj.out;have ak := Lv ap;have az := Lv ah;have Hf := Lv hf;clear ah l ap hno hf;go_wp2_with fail
    refine Calls.mono (Adk L HL.out s x.f (h.map FrV.f) m' W2 ⟨x :: h, sv, ev, rfl, az.out⟩ aj.out (o.out.top _ _ rfl).hat Hf.out (fun g hg => by have := ((o.out.rest _ _ rfl g hg).1).few.2; omega) (by have := (o.out.top _ _ rfl).few.2; omega)) ?_;rintro e W4 ⟨⟨u4, rfl⟩, h4, g4⟩;have g5 := g4.new d.out;have rp : RP L fin W4 n := ⟨_, ak.out.1, ak.out.2, h4, hr⟩;have Rp := Lv rp;have a1 := Lv (b.out.below g5 ac);have B7 := Lv (z.out.trans (g5.mono af));clear g5 g4 h4 rp;go_wp2_with fail
    go_roundw
    case rel => exact ⟨Lv ⟨n, Rp.out⟩, a1, B7⟩
    case measure =>
     have h2 := (Yu ⟨n, Rp.out⟩).2 n Rp.out;omega
structure PS (w W : World) (M : Nat) (es : List (Int × Value)) : Prop where
 below : Below w.heap.size w W
 lo : w.heap.size ≤ M
 map : MapB W M es
theorem Vk {ops : Array Oper} {rest : List Oper} {o : Oper} {a : Act} {w W : World} {Q : Exit → Act → World → Prop} {M : Nat} {es : List (Int × Value)} (hgd : o.guard = none) (m x y : Operand) (ho : o.op = .insert 182 m x y ∨ o.op = .mapUpdate 182 m x y) (hm : a.eval m = .map (some M)) (k : Int) (v : Value) (hx : a.eval x = .int .i64 k) (hy : a.eval y = v) (hs : PS w W M es) (hn : JB k es = none)
 (h : ∀ W', PS w W' M (es ++ [(k, v)]) → wpList Tryz.prog ops Q rest (a.put o.dst undef) W') : wpList Tryz.prog ops Q (o :: rest) a W :=
 Xx hgd m x y ho Tryz.underlying182 Tryz.underlying3 hs.map hm k v hx hy hn fun W' h4 o4 => h W' ⟨Ql hs.below o4 hs.lo, hs.lo, h4⟩
theorem AgG (w : World) : Calls Tryz.prog 144 #[] w fun e w' => ∃ M, e = .returned (.map (some M)) ∧ PS w w' M Xc := by
 have c : ∀ w : World, (Instr.makeMap 182 none).run Tryz.prog w = .ok (.map (some w.heap.size)) (w.alloc (.map #[] 0)) := fun _ => by kernel_rfl
 go_enter Tryz.func144, Tryz.ntmps144
 have g : PS w (w.alloc (.map #[] 0)) w.heap.size [] := ⟨(Below.refl _ _).alloc (Nat.le_refl _) _, Nat.le_refl _, MapB.new w⟩;go_wp2_with (refine Vk rfl _ _ _ (.inl rfl) rfl _ _ rfl rfl (by assumption) (by first | rfl | decide) ?_; intro d b)
 go_ret
 exact ⟨_, rfl, b⟩
end Go.Proofs.YtkoikjnlpifbjaaGreat
