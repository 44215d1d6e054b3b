/- Lemmas for RunnerTurnsP. -/
import Derived.Test.YtkoikjnlpifbjaaGreatZa1
import Derived.Test.YtkoikjnlpifbjaaGreatZa38
import Derived.Test.YtkoikjnlpifbjaaGreatZa20
import Derived.Test.YtkoikjnlpifbjaaGreatZa13
import Derived.Test.YtkoikjnlpifbjaaGreatZa14
import Derived.Test.YtkoikjnlpifbjaaGreatZa21
import Derived.Test.YtkoikjnlpifbjaaGreatZa30
import Derived.Test.YtkoikjnlpifbjaaGreatZa33
set_option linter.unusedVariables false
set_option linter.unusedSimpArgs false
set_option maxRecDepth 100000
set_option maxHeartbeats 16000000
namespace Go.Proofs.YtkoikjnlpifbjaaGreat
open Go.RowKit Go.Deep
structure LikeP (p q : PgV) : Prop where
 par : q.params = p.params
 vars : q.V = p.V
 body : q.body = p.body
theorem LikeP.fine {p q : PgV} (h : LikeP p q) (t : Tr) : Fine q t ↔ Fine p t :=
 ⟨fun k => ⟨(Ja h.par h.vars h.body).1 k.good, h.body ▸ k.len, h.body ▸ k.ar, k.dep⟩, fun k => ⟨(Ja h.par h.vars h.body).2 k.good, h.body.symm ▸ k.len, h.body.symm ▸ k.ar, k.dep⟩⟩
theorem LikeP.check {p q : PgV} (h : LikeP p q) : QV q = QV p := by
 have b : Good q = Good p := funext fun t => propext (Ja h.par h.vars h.body)
 unfold QV;rw [h.par, h.vars, h.body, b]
theorem LikeP.base {p q : PgV} (h : LikeP p q) (ts : List (List Int)) (fuel : Int) : Ze q ts fuel = Ze p ts fuel := by
 unfold Ze;rw [h.check, h.par]
theorem LikeP.mutb {p q : PgV} (h : LikeP p q) (d : Dl) : mutB q d = mutB p d := by
 have b : Fine q = Fine p := funext fun t => propext (h.fine t)
 unfold Go.Proofs.YtkoikjnlpifbjaaGreat.mutB;rw [h.body, b]
theorem LikeP.mutc {p q : PgV} (h : LikeP p q) (d : Dl) : mutC q d = mutC p d := by
 have b : Fine q = Fine p := funext fun t => propext (h.fine t)
 unfold Go.Proofs.YtkoikjnlpifbjaaGreat.mutC;rw [h.check, h.body, b]
theorem LikeP.judC {p q : PgV} (h : LikeP p q) (d : Dl) (ts : List (List Int)) (fuel : Int) : J6 q d ts fuel = J6 p d ts fuel := by
 unfold J6;rw [h.base, h.mutc]
theorem LikeP.jud {p q : PgV} (h : LikeP p q) (d : Dl) (ts : List (List Int)) (fuel : Int) : Zt q d ts fuel = Zt p d ts fuel := by
 have b : rnZ q fuel = rnZ p fuel := Yu h.par h.vars h.body fuel;have c : rnZ (UH q d) fuel = rnZ (UH p d) fuel := Yu (p := UH q d) (q := UH p d) h.par h.vars (h.mutb d) fuel;unfold Zt;rw [b, c]
structure RunS (p : PgV) (ts : List (List Int)) (fuel : Int) (k : Nat) (R : RnV) : Prop where
 q : LikeP p R.q
 hts : R.ts.map IntsV.l = ts
 hf : R.fuel = fuel
 xs : ∀ t, Fine p t → R.xs.map DlV.d = ZS p.body t
 n : R.n = min k R.xs.length
 ms : R.ms.map MtV.m = ((R.xs.map DlV.d).take R.n).map (fun d => Zt p d ts fuel)
 xl : R.xs.length ≤ 20000
 base : Ze p ts fuel = 0
theorem RunS.len {p : PgV} {ts : List (List Int)} {fuel : Int} {k : Nat} {R : RnV} (h : RunS p ts fuel k R) : R.ms.length = R.n := by
 have b := congrArg List.length h.ms;have c := h.n;rw [Lu, Lu, L0, Lu] at b;omega
theorem RunS.chk {p : PgV} {ts : List (List Int)} {fuel : Int} {k : Nat} {R : RnV} (h : RunS p ts fuel k R) : QV p = 0 := by
 have c := h.base;unfold Ze at c;split at c
 · rename_i b; exact absurd c b
 · rename_i b; simpa using b
theorem RunS.tl {p : PgV} {ts : List (List Int)} {fuel : Int} {k : Nat} {R : RnV} (h : RunS p ts fuel k R) : R.ts.length ≤ 20 := by
 have b := h.base;unfold Ze at b;split at b
 · rename_i c; exact absurd b c
 · have := (Yw b).2.1;rw [← h.hts, Lu] at this;exact this
theorem Yl {lo : Nat} {p : PgV} {ts : List (List Int)} {fuel : Int} {k : Nat} (R : RnV) (W : World) (h : RnIn lo R W) (hs : RunS p ts fuel k R) (hbl : p.body.length ≤ 40) :
 Calls Tryz.prog 11 #[.pointer (some ⟨R.g, 0, none⟩)] W fun e w' => ∃ c : CpV, e = .returned (.agg c.cells) ∧ CpOk w' c ∧ CpT w' c ∧ c.data = ⟨p.params, p.V, p.body, ts, fuel, ((R.xs.map DlV.d).take R.n).map (fun d => Zt p d ts fuel), QG (((R.xs.map DlV.d).take R.n).map (fun d => Zt p d ts fuel))⟩ ∧ Below W.heap.size W w' := by
 refine (Agu R W h (by rw [hs.q.body]; omega) (by rw [hs.q.vars]; exact EU hs.chk) (by have := hs.tl; omega) (Yk (by rw [hs.hts]; exact hs.base)) (by rw [hs.len]; have := hs.n; have := hs.xl; omega)).mono ?_;rintro e w' ⟨c, rfl, b, i, j, l⟩;exact ⟨c, rfl, b, i, j.trans (by rw [hs.q.par, hs.q.vars, hs.q.body, hs.hts, hs.hf, hs.ms]), l⟩
structure NextS (lo : Nat) (p : PgV) (ts : List (List Int)) (fuel : Int) (k : Nat) (R R' : RnV) (W w' : World) : Prop where
 rn : RnIn lo R' w'
 s : RunS p ts fuel (k + 1) R'
 g : R'.g = R.g
 xs : R'.xs = R.xs
 kp : KpW (fun i => i = R.g ∨ R.mv.ownBlock = some i) W w'
 own : R'.mv.ownBlock = R.mv.ownBlock ∨ ∀ k, R'.mv.ownBlock = some k → W.heap.size ≤ k
 tk : TKeep W w'
 low : Below lo W w'
theorem RnIn.tk {lo : Nat} {R : RnV} {W W' : World} (h : RnIn lo R W) (k : KpW (fun i => i = R.g ∨ R.mv.ownBlock = some i) W W') : TKeep W W' := fun i t cs r a b => k.row r (fun e => by
 rcases e with e | e
 · exact ZJ r h.row a e
 · exact Qx h.own r (fun x => b x.symm) e)
theorem RnIn.lo {lo : Nat} {R : RnV} {W W' : World} (h : RnIn lo R W) (hlo : lo ≤ W.heap.size) (k : KpW (fun i => i = R.g ∨ R.mv.ownBlock = some i) W W') : Below lo W W' := k.below hlo (fun i e => by
 rcases e with rfl | e
 · exact h.glo
 · exact QP h.own e)
theorem Xt {lo : Nat} {p : PgV} {ts : List (List Int)} {fuel : Int} {k : Nat} (R : RnV) (W : World) (h : RnIn lo R W) (hs : RunS p ts fuel k R) (hlo : lo ≤ W.heap.size) (hbl : p.body.length ≤ 40) :
 Calls Tryz.prog 9 #[.pointer (some ⟨R.g, 0, none⟩)] W fun e w' => ∃ R', e = .returned (.bool (decide (k < R.xs.length))) ∧ NextS lo p ts fuel k R R' W w' := by
 have hn := hs.n;have hx := hs.xl;have hts : (R.ts.map IntsV.l).length = R.ts.length := by simp
 by_cases c : k < R.xs.length
 · have w : R.n = k := by omega
   rw [decide_eq_true c];obtain ⟨x, i⟩ : ∃ x, R.xs[k]? = some x := ⟨_, La c⟩;have j := hs.base;rw [← hs.hts] at j;have u := Yk j;have hl := hs.tl;have v : ∀ t, Fine p t → x.d ∈ ZS p.body t := fun t o => by rw [← hs.xs t o]; exact Nf (Lg i)
   have hj : J6 R.q x.d (R.ts.map IntsV.l) R.fuel = 0 := by
    rw [hs.q.judC, hs.hts, hs.hf];unfold J6;rw [if_neg (by rw [hs.base]; simp)];obtain ⟨t, o⟩ := checkP_ok.1 hs.chk;exact Ag6 o (v t o)
   refine (Ahb R x W h hlo (by rw [w]; exact i) hs.len (by omega) (by rw [hs.q.body]; exact hbl) hl u hj).mono ?_;rintro e w' ⟨rfl, bv, mv, y, z, h2, s, h4⟩;refine ⟨_, rfl, z, ⟨hs.q, hs.hts, hs.hf, hs.xs, ?_, ?_, hs.xl, hs.base⟩, rfl, rfl, s, h4, h.tk s, h.lo hlo s⟩
   · show R.n + 1 = min (k + 1) R.xs.length;omega
   · show (R.ms ++ [y]).map MtV.m = ((R.xs.map DlV.d).take (R.n + 1)).map _;rw [LG, hs.ms, Lz, LG, L4, w, i];simp only [LM, Nu, Nl, Option.toList_some];rw [h2, hs.q.jud, hs.hts, hs.hf]
 · rw [decide_eq_false c];refine (Ac5 R W h (by omega) (by omega)).mono ?_;rintro e w' ⟨rfl, b⟩;exact ⟨R, rfl, h.go b, ⟨hs.q, hs.hts, hs.hf, hs.xs, by omega, hs.ms, hs.xl, hs.base⟩, rfl, rfl, KpW.of_below b, .inl rfl, .below b, b.mono hlo⟩
structure Apart (R S : RnV) : Prop where
 g : R.g ≠ S.g
 own : ∀ k, R.mv.ownBlock = some k → S.mv.ownBlock ≠ some k
theorem Apart.symm {R S : RnV} (h : Apart R S) : Apart S R := ⟨h.g.symm, fun k a b => h.own k b a⟩
theorem RnIn.beside {lo lo' : Nat} {R S : RnV} {W W' : World} (h : RnIn lo R W) (hs : RnIn lo' S W) (ha : Apart R S) (k : KpW (fun i => i = S.g ∨ S.mv.ownBlock = some i) W W') : RnIn lo R W' := by
 refine ⟨k.row h.row (fun e => ?_), h.glo, h.rd.keep (hs.tk k), ⟨h.own.1, ?_⟩⟩
 · rcases e with e | e
   · exact ha.g e
   · exact Qx hs.own h.row (by decide) e
 · rcases h.own.2 with e | ⟨i, d, b, e, l, j, m⟩
   · exact .inl e
   · refine .inr ⟨i, d, b, e, l, k.row (show Row W i 54 b from j) (fun c => ?_), m⟩;rcases c with c | c
     · exact ZJ (show Row W i 54 b from j) hs.row (by decide) c
     · exact ha.own i (by rw [e]; rfl) c
theorem Apart.next {lo lo' : Nat} {p : PgV} {ts : List (List Int)} {fuel : Int} {k : Nat} {R S S' : RnV} {W w' : World} (ha : Apart R S) (hr : RnIn lo R W) (hn : NextS lo' p ts fuel k S S' W w') : Apart R S' :=
 ⟨by rw [hn.g]; exact ha.g, fun i e e2 => by
  rcases hn.own with h | h
  · exact ha.own i e (by rw [← h]; exact e2)
  · have := h i e2
    have := KL hr.own e
    omega⟩
structure RunC (p : PgV) (ts : List (List Int)) (fuel : Int) (w w' : World) (e : Ending) : Prop where
 no : Ze p ts fuel ≠ 0 → e = .returned (.tuple #[.agg cp0.cells, .int .i64 (Ze p ts fuel)])
 yes : Ze p ts fuel = 0 → ∃ c : CpV, e = .returned (.tuple #[.agg c.cells, .int .i64 0]) ∧ CpOk w' c ∧ ∀ t, Fine p t → c.data = ⟨p.params, p.V, p.body, ts, fuel, (ZS p.body t).map (fun d => Zt p d ts fuel), QG ((ZS p.body t).map (fun d => Zt p d ts fuel))⟩
 low : Below w.heap.size w w'
theorem AiP (p : PgV) (A : Option Addr) (cap : Nat) (ts : List IntsV) (fuel : Int) (w : World) (hok : p.ok w) (hbl : p.body.length ≤ 40) (hr : Rd w A (ZN ts)) (hot : ∀ x ∈ ts, x.ok w) (hl : ts.length ≤ 1000) :
 Calls Tryz.prog 14 #[.agg p.cells, .slice A ts.length cap, .int .i64 fuel] w fun e w' => RunC p (ts.map IntsV.l) fuel w w' e := by
 have am := Lh hbl;have Hn : Hid (∀ W, Below w.heap.size w W → _) := fun W b => Kx p A cap ts fuel W (hok.go b) (by omega) (hr.go b) (fun x hx => (hot x hx).go b) hl;clear hok hr hot hbl hl;go_enter Tryz.func14, Tryz.ntmps14
 go_wp2_with (refine Qm _ _ rfl ?_)
 refine Stop.to ?_;refine Qe rfl 25 _ rfl p.cells rfl ?_;intro G w1 hG rG bG;have b1 : Below w.heap.size w w1 := bG.mono hG;have ap : w.heap.size ≤ G := hG;clear bG hG;go_wp2_with (refine QS _ rfl ?_)
 refine Stop.to ?_;refine Qk rfl 38 rfl _ _ (XO _) rfl ?_;intro C w2 hC rC bC;have b2 : Below w.heap.size w w2 := b1.trans ((bC.mono hC).mono b1.size);have ab : Hid (w.heap.size ≤ C) := Lf b1.size hC;have ay := rG.below (bC.mono hC) rG.lt;clear b1 bC hC rG ap;go_wp2_with (refine wpList_load_row rfl 25 _ rfl G rfl 25 p.cells (0, 0) _ ay Tryz.underlying25 rfl (by kernel_rfl) ?_)
 refine (Hn.out w2 b2).mono ?_;rintro e w3 j;clear Hn ay;have b3 := b2.trans (j.low.mono b2.size);have aa := rC.below j.low rC.lt;by_cases hz : Ze p (ts.map IntsV.l) fuel = 0
 · obtain ⟨R, rfl, hR, ⟨q1, q2, q3⟩, av, hf, m, aw, aj, au, a0⟩ := j.yes hz;have hS : RunS p (ts.map IntsV.l) fuel 0 R := ⟨⟨q1, q2, q3⟩, av, hf, m, by rw [aj]; omega, by rw [au, aj]; rfl, aw, hz⟩;have o : w.heap.size ≤ w2.heap.size := b2.size;have ag : C < w2.heap.size := rC.lt;obtain ⟨lo, y⟩ : ∃ lo, lo = w2.heap.size := ⟨_, rfl⟩;rw [← y] at hR o ag;have an := Lh o;have a2 := Lh ag;have Hz := Lh hz;obtain ⟨g, z⟩ : ∃ g, g = R.g := ⟨_, rfl⟩;obtain ⟨xs, ac⟩ : ∃ xs, xs = R.xs := ⟨_, rfl⟩;have hrel : ∃ k u, u.g = g ∧ u.xs = xs ∧ k ≤ xs.length ∧ RnIn lo u w3 ∧ RunS p (ts.map IntsV.l) fuel k u ∧ lo ≤ w3.heap.size ∧ Row w3 C 38 cp0.cells ∧ Below w.heap.size w w3 := ⟨0, R, z.symm, ac.symm, Nat.zero_le _, hR, hS, by rw [y]; exact j.low.size, aa, b3⟩;rw [← z];clear j b2 b3 aa rC y hz o ag hR hS q1 q2 q3 av hf m aw aj au a0 z ac;go_wp2_with fail
   go_loopw [21] (fun _ W => ∃ k u, u.g = g ∧ u.xs = xs ∧ k ≤ xs.length ∧ RnIn lo u W ∧ RunS p (ts.map IntsV.l) fuel k u ∧ lo ≤ W.heap.size ∧ Row W C 38 cp0.cells ∧ Below w.heap.size w W) (fun _ W => xs.length - (intOf ((W.cell? ⟨g, 6, none⟩).getD undef)).toNat)
   case atStart => exact hrel
   case round =>
    obtain ⟨k, u, z, m, hk, hR, hS, o, hC, hb⟩ := hrel;have j := Xt u wr hR hS o (by have := am.out; omega);rw [z] at j;have HN := Lh j;have HC := Lh hC;have Hb := Lh hb;have HR := Lh hR;have HS := Lh hS;clear j hR hS hC hb;go_wp2_with fail
    refine HN.out.mono ?_;rintro e w9 ⟨R2, rfl, j⟩;rw [m];by_cases ai : k < xs.length
    · rw [decide_eq_true ai];have d := Lh j;clear j;go_wp2_with fail
      go_roundw
      case rel => exact ⟨k + 1, R2, d.out.g.trans z, d.out.xs.trans m, ai, d.out.rn, d.out.s, Lf o (d.out.low.size), d.out.tk _ _ _ HC.out (by decide) (by decide), Hb.out.trans (d.out.low.mono an.out)⟩
      case measure =>
       have c1 := HR.out.row.cellv (i := 6) (v := .int .i64 (u.n : Int)) rfl;have c2 := d.out.rn.row.cellv (i := 6) (v := .int .i64 (R2.n : Int)) rfl;rw [z] at c1;rw [d.out.g, z] at c2;rw [c1, c2];have h1 := HS.out.n;have h2 := d.out.s.n;rw [m] at h1;rw [d.out.xs, m] at h2;simp [intOf];omega
    · rw [decide_eq_false ai];have aq := Lh j.s;have ah := Hb.out.trans (j.low.mono an.out);have af := j.tk _ _ _ HC.out (by decide) (by decide);have ar := j.g.trans z;have ax := Lh (j.xs.trans m);have hK := Yl R2 w9 j.rn j.s (by have := am.out; omega);rw [ar] at hK;have HK := Lh hK;clear j hK HN HR HS HC Hb ar;go_wp2_with fail
      refine HK.out.mono ?_;rintro e a3 ⟨c, rfl, hok, hT, hd, ad⟩;have ae := af.below ad af.lt;have ao := ah.trans (ad.mono ah.size);have az := Lh hok;have HT := Lh hT;have Hd := Lh hd;clear hok hT hd ad HK af ah;go_wp2_with (refine Qv _ _ _ rfl ?_)
      refine Stop.to ?_;refine Ql rfl 38 _ _ rfl C c.cells rfl rfl 38 _ ae (by kernel_rfl) rfl (by simp [CpV.cells, Value.oneCell']) ?_;intro al ak q
      have HF : Hid (RunC p (ts.map IntsV.l) fuel w al (.returned (.tuple #[.agg c.cells, .int .i64 0]))) := ⟨fun h => absurd Hz.out h, fun _ => ⟨c, rfl, az.out.onlyT HT.out q ae, fun t ht => Hd.out.trans (by
       have h1 := aq.out.n
       have h2 := aq.out.xs t ht
       rw [ax.out] at h1 h2
       rw [ax.out, Lx (by rw [Lu]; omega), h2])⟩, Qn ao q (Lf (Nat.le_refl _) ab.out)⟩
      clear ae ao q;go_wp2_with fail
      refine bodyPost_ret (QZ Tryz.results14 _ _ C 38 _ (0, 0) _ rfl ak Tryz.underlying38 rfl (by kernel_rfl)) rfl ?_;exact HF.out
 · have a1 : (Ze p (ts.map IntsV.l) fuel != 0) = true := by simpa using hz
   have he := j.no hz;subst he;have Hz := Lh hz;have Hb := Lh b3;clear j hz b3;go_wp2_with (refine Qv _ _ _ rfl ?_)
   refine Stop.to ?_;refine Ql rfl 38 _ _ rfl C cp0.cells rfl rfl 38 _ aa (by kernel_rfl) rfl (by simp [CpV.cells, cp0, Value.oneCell']) ?_;intro al ak q;have HF : Hid (RunC p (ts.map IntsV.l) fuel w al (.returned (.tuple #[.agg cp0.cells, .int .i64 (Ze p (ts.map IntsV.l) fuel)]))) := ⟨fun _ => rfl, fun h => absurd h Hz.out, Qn Hb.out q ab.out⟩;clear aa q Hb a1;go_wp2_with fail
   refine bodyPost_ret (QZ Tryz.results14 _ _ C 38 _ (0, 0) _ rfl ak Tryz.underlying38 rfl (by kernel_rfl)) rfl ?_;exact HF.out
theorem RnIn.weak {lo lo' : Nat} {R : RnV} {W : World} (h : RnIn lo R W) (l : lo' ≤ lo) : RnIn lo' R W :=
 ⟨h.row, Lf l h.glo, h.rd, h.own.1, h.own.2.imp id fun ⟨g, cap, cur, e, h1, r⟩ => ⟨g, cap, cur, e, Lf l h1, r⟩⟩
structure Tri (lo : Nat) (p q : PgV) (ts us : List (List Int)) (fuel : Int) (k : Nat) (R S T : RnV) (W : World) : Prop where
 r : RnIn lo R W
 s : RnIn lo S W
 t : RnIn lo T W
 rs : RunS p ts fuel k R
 ss : RunS q us fuel k S
 tt : RunS p ts fuel k T
 ab : Apart R S
 ac : Apart R T
 bc : Apart S T
section
variable {lo : Nat} {p q : PgV} {ts us : List (List Int)} {fuel : Int} {k : Nat} {R S T R2 S2 T2 : RnV} {W W1 W2 W3 : World}
theorem Tri.go (h : Tri lo p q ts us fuel k R S T W) (b : Below W.heap.size W W1) : Tri lo p q ts us fuel k R S T W1 := ⟨h.r.go b, h.s.go b, h.t.go b, h.rs, h.ss, h.tt, h.ab, h.ac, h.bc⟩
instance St.tri : St (fun W => Tri lo p q ts us fuel k R S T W) := ⟨fun h b => h.go b⟩
theorem Tri.t1 (h : Tri lo p q ts us fuel k R S T W) (a : NextS lo p ts fuel k R R2 W W1) : RnIn lo T W1 := h.t.beside h.r h.ac.symm a.kp
theorem Tri.s2 (h : Tri lo p q ts us fuel k R S T W) (a : NextS lo p ts fuel k R R2 W W1) (b : NextS lo p ts fuel k T T2 W1 W2) : RnIn lo S W2 := (h.s.beside h.r h.ab.symm a.kp).beside (h.t1 a) h.bc b.kp
theorem Tri.step (h : Tri lo p q ts us fuel k R S T W) (a : NextS lo p ts fuel k R R2 W W1) (b : NextS lo p ts fuel k T T2 W1 W2) (c : NextS lo q us fuel k S S2 W2 W3) : Tri lo p q ts us fuel (k + 1) R2 S2 T2 W3 := by
 have l := h.s.beside h.r h.ab.symm a.kp;have d := (h.ac.symm.next h.t a).symm;have e := a.rn.beside (h.t1 a) d b.kp;have s2 := h.s2 a b;have g := h.ab.symm.next h.s a;have i := h.bc.next l b;have j := d.next a.rn b;exact ⟨e.beside s2 g.symm c.kp, c.rn, b.rn.beside s2 i.symm c.kp, a.s, c.s, b.s, g.symm.next e c, j, (i.symm.next b.rn c).symm⟩
theorem Tri.len (h : Tri lo p q ts us fuel k R S T W) : T.xs.length = R.xs.length := by
 obtain ⟨t, b⟩ := checkP_ok.1 h.rs.chk;have c := congrArg List.length (h.rs.xs t b);have d := congrArg List.length (h.tt.xs t b);rw [Lu] at c d;omega
theorem Tri.alike (h : Tri lo p q ts us fuel k R S T W) {f : Dl → Mt} : ((T.xs.map DlV.d).take T.n).map f = ((R.xs.map DlV.d).take R.n).map f := by
 obtain ⟨t, b⟩ := checkP_ok.1 h.rs.chk;rw [h.rs.xs t b, h.tt.xs t b, h.rs.n, h.tt.n, h.len]
theorem Aha {p : PgV} {ts : List (List Int)} {fuel : Int} {e : Ending} (h : NewR p ts fuel W W1 e) : ∃ v, e = .returned (.tuple #[v, .int .i64 (Ze p ts fuel)]) := by
 by_cases b : Ze p ts fuel = 0
 · obtain ⟨R, c, _⟩ := h.yes b;exact ⟨_, by rw [c, b]⟩
 · exact ⟨_, h.no b⟩
theorem Ag9 {p : PgV} {ts : List (List Int)} {fuel : Int} {e : Ending} {lo : Nat} (h : NewR p ts fuel W W1 e) (h0 : Ze p ts fuel = 0) (hlo : lo ≤ W.heap.size) : ∃ R : RnV, e = .returned (.tuple #[.pointer (some ⟨R.g, 0, none⟩), .int .i64 0]) ∧ RnIn lo R W1 ∧ RunS p ts fuel 0 R ∧ W.heap.size ≤ R.g ∧ R.mv.ownBlock = none := by
 obtain ⟨R, m, l, ⟨o, q, s⟩, i, n, k, j, b, c, d⟩ := h.yes h0;exact ⟨R, m, l.weak hlo, ⟨⟨o, q, s⟩, i, n, k, by rw [b]; omega, by rw [c, b]; rfl, j, h0⟩, l.glo, by rw [d]; rfl⟩
theorem Uz {W : World} {lo : Nat} {R S : RnV} (h : RnIn lo R W) (hs : W.heap.size ≤ S.g) (hm : S.mv.ownBlock = none) : Apart R S :=
 ⟨fun e => by have := h.row.lt; omega, fun k _ e => by rw [hm] at e; cases e⟩
end
def Sc.add (a b : Sc) : Sc := ⟨a.alive + b.alive, a.killed + b.killed, a.timeout + b.timeout⟩
end Go.Proofs.YtkoikjnlpifbjaaGreat
namespace Go.Proofs.YtkoikjnlpifbjaaGreat
open Go.ChangeShapes Go.WideShapes Go.RowKit Go.Deep
section
variable {H : Type} {enc : TypeId × Value → H} {w : World} {base : Nat} {spare : Nat → Bool} {held : Bool}
theorem Add {fuel : Nat} {cs : List Value} {x : DataW H × List MemPlace} (h : DataW.trod enc Tryz.prog w base spare held fuel 26 cs = some x) :
 ∃ (A : Option Addr) (cap : Nat) (l : List IntsV), cs = [.slice A l.length cap] ∧ l.length ≤ cap ∧ cap ≤ maxLen ∧ (A = none → cap = 0) ∧ Rd w A (ZN l) ∧ ∀ e ∈ l, e.ok w := by
 obtain ⟨A, cap, g, rfl, c, i, m, o, j, k⟩ := UJ Tryz.underlying26 h;obtain ⟨l, rfl, b⟩ := Um (fun x : IntsV => [x.val]) (fun x => x.ok w) g (fun s d => by obtain ⟨n, y, q⟩ := k s d; obtain ⟨r, p, e⟩ := Ej q; exact ⟨r, e, p⟩);rw [Lu] at c;refine ⟨A, cap, l, by rw [Lu], c, i, m, ?_, b⟩
 rw [show ZN l = (l.map fun x : IntsV => [x.val]).flatten from by
  clear c i m o j k b h
  induction l with
  | nil => rfl
  | cons x l ih => simp only [ZN, LM, List.flatten_cons, List.singleton_append] at ih ⊢; rw [← ih]]
 exact j
end
end Go.Proofs.YtkoikjnlpifbjaaGreat
namespace Go.Proofs.YtkoikjnlpifbjaaGreat
open Go.RowKit Go.Deep
theorem Abz {W : World} {g : Nat} {t : TypeId} {cs : List Value} (h : Row W g t cs.toArray) : Rd W (some ⟨g, 0, none⟩) cs := Jj h
theorem Aio : (Tryz.prog.info? 65).map (fun i => (i.zero, i.size)) = some (some (.agg #[.int .i64 0, .int .i64 0]), 2) := by kernel_rfl
theorem Ae3 : (Tryz.prog.info? 22).map (fun i => (i.zero, i.size)) = some (some (.slice none 0 0), 1) := by kernel_rfl
theorem AhW {w : World} : (zeroValue 25).run Tryz.prog w = .ok (.agg #[.int .i64 0, .slice none 0 0, .slice none 0 0]) w := by kernel_rfl
theorem Aht {W : World} {g : Nat} {t : TypeId} {cs : List Value} (h : Row W g t cs.toArray) : Rd W (some ⟨g, 0, none⟩) cs := fun j u hj => ⟨_, rfl, by
 have := h.cellv (i := j) (v := u) (by simpa using hj)
 unfold Addr.add
 by_cases h0 : j = 0
 · subst h0; exact this
 · rw [if_neg h0]; simpa using this⟩
def Ag0 (params : Int) (V : List Int) (body : List Nd) (g1 g2 : Nat) : PgV := ⟨params, some ⟨g1, 0, none⟩, V.length, V, some ⟨g2, 0, none⟩, body.length, body⟩
theorem Aiy {params : Int} {V : List Int} {body : List Nd} {g1 g2 : Nat} {W : World} (hp : InI params) (hv : ∀ t ∈ V, InI t) (hb : ∀ x ∈ body, InI x.tag ∧ InI x.n) (h1 : V.length ≤ maxLen) (h2 : body.length ≤ maxLen)
 (r1 : Row W g1 3 (Qi V).toArray) (r2 : Row W g2 65 (body.flatMap Nd.cells).toArray) : (Ag0 params V body g1 g2).ok W :=
 ⟨hp, Nat.le_refl _, h1, fun h => (by cases h), Aht r1, hv, Nat.le_refl _, h2, fun h => (by cases h), Aht r2, hb⟩
theorem AiR {p : PgV} {t : Tr} {args : List Int} {fuel v : Int} {s : Ms} {w : World} (hok : p.ok w) (hin : ∀ a ∈ args, InI a) (hc : Zs p args.length fuel = 0) (hg : Good p t) (he : evG (fuel.toNat + 1) (.one t) (ZZ p.V args fuel.toNat) = (v, s)) : QM p args fuel = s.stopped 3 0 := by
 obtain ⟨g, h, e, b⟩ := Vt hok hin hc;have := b.good.hat.uniq hg.hat;subst this;have c := b.big.ev (fuel.toNat + 1) (by simp [ZZ]);rw [he] at c;have d : s = e := congrArg Prod.snd c;rw [b.eq, d]
theorem AjR {params : Int} {V : List Int} {body : List Nd} (w : World) (hp : InI params) (hv : ∀ t ∈ V, InI t) (hb : ∀ x ∈ body, InI x.tag ∧ InI x.n) (h1 : V.length ≤ maxLen) (h2 : body.length ≤ maxLen) : ∃ W g1 g2, (Ag0 params V body g1 g2).ok W := by
 have c := Row.new w 3 (Qi V).toArray;have d := Row.new (w.alloc (.cells (Qi V).toArray 3)) 65 (body.flatMap Nd.cells).toArray;have b : Below (w.alloc (.cells (Qi V).toArray 3)).heap.size (w.alloc (.cells (Qi V).toArray 3)) ((w.alloc (.cells (Qi V).toArray 3)).alloc (.cells (body.flatMap Nd.cells).toArray 65)) := (Below.refl _ _).alloc (Nat.le_refl _) _;exact ⟨_, _, _, Aiy hp hv hb h1 h2 (c.below b c.lt) d⟩
def bodyR : List Nd := [⟨20, 1⟩, ⟨25, 0⟩, ⟨1, 1⟩]
def XQ : Tr := .node ⟨20, 1⟩ [.node ⟨25, 0⟩ [.node ⟨1, 1⟩ []]]
def pR (g : Nat) : PgV := ⟨0, none, 0, [], some ⟨g, 0, none⟩, 3, bodyR⟩
theorem AjS {x : Nd} (h : Qs x = 0) : (Tr.node x []).fits := .mk _ _ (by rw [h]; rfl) (fun k hk => by simp at hk)
theorem Ai9 {x : Nd} {k : Tr} (h : Qs x = 1) (hk : k.fits) : (Tr.node x [k]).fits := .mk _ _ (by rw [h]; rfl) (fun j hj => by rw [Lv.1 hj]; exact hk)
theorem AgQ (g : Nat) : Good (pR g) XQ := ⟨⟨Ai9 rfl (Ai9 rfl (AjS rfl)), [], by rfl⟩, by rfl, by show KT 0 []; decide, rfl, by show ofT [] XQ = 2; decide +kernel⟩
theorem Acs (g : Nat) : Fine (pR g) XQ := ⟨AgQ g, by simp [pR, bodyR], by show ∀ x ∈ bodyR, ¬ Qs x < 0; decide, by decide +kernel⟩
theorem Ahw {p : PgV} {t : Tr} {v k n : Int} {s : Ms} (w : World) (h1 : p.params = 0) (h2 : p.V = []) {b : List Nd} (h3 : p.body = b) (hb : ∀ x ∈ b, InI x.tag ∧ InI x.n) (hl : b.length ≤ 9) (hg : Good p t) (he : evG 10 (.one t) (ZZ [] [] 9) = (v, s)) (ho : (s.stopped 3 0).out = some (k, n)) : (rnZ p 9 []).kind = k ∧ (rnZ p 9 []).value = n := by
 obtain ⟨W, c, d, e⟩ := AjR (params := 0) (V := []) (body := b) w (by unfold InI; omega) (by simp) hb (by unfold maxLen; simp) (by unfold maxLen; omega);rw [Yu (q := Ag0 0 [] b c d) h1 h2 h3];have h := AiR e (args := []) (fuel := 9) (by simp) (by rw [JK ((Ja (q := Ag0 0 [] b c d) h1 h2 h3).1 hg)]; rfl) ((Ja (q := Ag0 0 [] b c d) h1 h2 h3).1 hg) he;unfold rnZ;rw [h, ho];exact ⟨rfl, rfl⟩
theorem Ah1 : ZS bodyR XQ = [⟨[0], 5, 0⟩, ⟨[0], 7, 0⟩, ⟨[0, 0], 4, -1⟩, ⟨[0, 0], 4, 0⟩, ⟨[0, 0], 4, 2⟩] := by kernel_rfl
theorem Ae6 {p : PgV} {d : Dl} {k n : Int} (a : (rnZ p 9 []).kind = 0 ∧ (rnZ p 9 []).value = 1) (b : (rnZ (UH p d) 9 []).kind = k ∧ (rnZ (UH p d) 9 []).value = n) (h : Zu ⟨0, 1, []⟩ ⟨k, n, []⟩ = 1) : (Zt p d [[]] 9).verdict = 1 := by
 unfold Zt
 have e := V7 (f := rnZ p 9) (g := rnZ (UH p d) 9) (d := d) (pre := []) (rest := []) (x := []) (by simp [Zm]) (by
  unfold Zu at h ⊢
  rw [a.1, a.2, b.1, b.2]
  exact h)
 rw [Lm] at e;rw [e]
theorem AjU (g : Nat) (w : World) : ∀ d ∈ ZS bodyR XQ, (Zt (pR g) d [[]] 9).verdict = 1 := by
 intro d i;obtain ⟨q, k, l, _, _, _, _, j⟩ := (AgQ g).change i;have c := Abr (Acs g) l;have e := j (UH (pR g) d) rfl rfl c;have h := Ahw (p := pR g) (b := bodyR) w rfl rfl rfl (by simp [bodyR, InI]) (by simp [bodyR]) (AgQ g) (v := 0) (s := ⟨[], [], 6, 3, [], some (0, 1)⟩) (by kernel_rfl) rfl;rw [Ah1] at i;simp only [Lt, L3, or_false] at i;rcases i with rfl | rfl | rfl | rfl | rfl
 all_goals
  first
  | (obtain ⟨rfl, rfl⟩ := Prod.mk.inj (Option.some.inj l)
     first
     | exact Ae6 h (Ahw w rfl rfl (b := [⟨20, 1⟩, ⟨26, 0⟩]) c (by simp [InI]) (by simp) e (v := 0) (s := ⟨[], [], 7, 2, [], none⟩) (by kernel_rfl) rfl) (by decide)
     | exact Ae6 h (Ahw w rfl rfl (b := [⟨20, 1⟩, ⟨25, 0⟩, ⟨1, 0⟩]) c (by simp [InI]) (by simp) e (v := 0) (s := ⟨[], [], 6, 3, [], some (0, 0)⟩) (by kernel_rfl) rfl) (by decide)
     | exact Ae6 h (Ahw w rfl rfl (b := [⟨20, 1⟩, ⟨25, 0⟩, ⟨1, -1⟩]) c (by simp [InI]) (by simp) e (v := 0) (s := ⟨[], [], 6, 3, [], some (0, -1)⟩) (by kernel_rfl) rfl) (by decide)
     | exact Ae6 h (Ahw w rfl rfl (b := [⟨20, 1⟩, ⟨25, 0⟩, ⟨1, 2⟩]) c (by simp [InI]) (by simp) e (v := 0) (s := ⟨[], [], 6, 3, [], some (0, 2)⟩) (by kernel_rfl) rfl) (by decide))
theorem AjH {g : Nat} {c : CpV} {v ts f pr b} (w : World) (h : c.data = ⟨pr, v, b, ts, f, (ZS bodyR XQ).map (fun d => Zt (pR g) d [[]] 9), QG ((ZS bodyR XQ).map fun d => Zt (pR g) d [[]] 9)⟩) : c.mts.length = 5 ∧ c.sc = ⟨0, 5, 0⟩ := by
 have o : c.mts.map MtV.m = _ := congrArg Cd.muts h;have p : c.sc = _ := congrArg Cd.sc h;have k := congrArg List.length o;rw [Lu, Lu, Ah1] at k;refine ⟨k, p.trans ?_⟩
 have j : ∀ m ∈ (ZS bodyR XQ).map (fun d => Zt (pR g) d [[]] 9), m.verdict = 1 := fun m i => by
  obtain ⟨d, q, rfl⟩ := LO.1 i;exact AjU g w d q
 have n : ((ZS bodyR XQ).map (fun d => Zt (pR g) d [[]] 9)).length = 5 := by rw [Lu, Ah1]; rfl
 generalize (ZS bodyR XQ).map (fun d => Zt (pR g) d [[]] 9) = l at j n
 have e : ∀ v : Int, Jn l v = if v = 1 then 5 else 0 := fun v => by
  unfold Jn;split
  · rename_i h; subst h; rw [List.filter_eq_self.2 fun m i => by rw [j m i]; rfl, n]; rfl
  · rename_i h; rw [List.filter_eq_nil_iff.2 fun m i => by rw [j m i]; simpa using fun e => h e.symm]; rfl
 unfold QG;rw [e, e, e]; rfl
def tvR (g : Nat) : IntsV := ⟨some ⟨g, 0, none⟩, 0, []⟩
theorem AhJ (g : Nat) (W : World) : ∀ x ∈ [tvR g], x.ok W := fun x hx => by
 rw [Lv.1 hx];exact ⟨Nat.le_refl _, by unfold maxLen; simp [tvR], fun h => (by cases h), fun j u b => by simp [tvR, Qi] at b, by simp [tvR]⟩
theorem AjX {g : Nat} {W : World} (r : Row W g 65 (bodyR.flatMap Nd.cells).toArray) : (pR g).ok W :=
 ⟨by unfold InI pR; dsimp only; omega, Nat.le_refl _, Nat.zero_le _, fun _ => rfl, Rd.nil _ _, by simp [pR], by simp [pR, bodyR], by unfold maxLen; simp [pR], fun h => (by cases h), Abz r, by simp [pR, bodyR, InI]⟩
theorem Agp (g : Nat) : Ze (pR g) [[]] 9 = 0 := by
 unfold Ze;rw [if_neg (by rw [checkP_ok.2 ⟨_, Acs g⟩]; simp)];show JB 0 [[]] 9 = 0;decide
theorem Agq (g : Nat) : Ze (pR g) [] 9 = 18 := by
 unfold Ze;rw [if_neg (by rw [checkP_ok.2 ⟨_, Acs g⟩]; simp)];show JB 0 [] 9 = 18;decide
theorem Adz (w : World) : Calls Tryz.prog 6 #[] w fun e w' => e = .returned (.bool true) ∧ Below w.heap.size w w' := by
 go_enter Tryz.func6, Tryz.ntmps6
 obtain ⟨S0, j⟩ : ∃ S : World → Prop, S = (fun W => Below w.heap.size w W) := ⟨_, rfl⟩;have bn : St S0 := by rw [j]; infer_instance
 have u : Hid (∀ W, S0 W → Below w.heap.size w W) := by show ∀ W, _; rw [j]; exact fun W h => h
 have a7 : Hid (S0 w) := by show S0 w; rw [j]; exact Below.refl _ _
 clear j;go_wp2_with (refine ZC _ _ _ rfl ?_)
 refine Stop.to ?_;refine Qt rfl 23 3 _ rfl 65 (bodyR.flatMap Nd.cells).toArray (Z2 Tryz.underlying23 Aio (by decide) (by decide) (by kernel_rfl)) ?_;intro k ap o t q;have b := bn.go a7.out (q.mono o);obtain ⟨S1, j⟩ : ∃ S : World → Prop, S = (fun W => S0 W ∧ Row W k 65 (bodyR.flatMap Nd.cells).toArray) := ⟨_, rfl⟩;have bo : St S1 := by rw [j]; infer_instance
 have D1 : Hid (∀ W, S1 W → S0 W) := by show ∀ W, _; rw [j]; exact fun W h => h.1
 have a6 : Hid (∀ W, S1 W → Row W k 65 (bodyR.flatMap Nd.cells).toArray) := by show ∀ W, _; rw [j]; exact fun W h => h.2
 have a8 : Hid (S1 ap) := by show S1 ap; rw [j]; exact ⟨b, t⟩
 clear j;clear b a7 o t q;go_wp2_with (refine QS _ rfl ?_)
 refine Stop.to ?_;refine Qk rfl 25 rfl _ _ AhW rfl ?_;intro ai b0 o t q;go_wp2_with (refine Qv _ _ _ rfl ?_)
 refine Stop.to ?_;refine Ql rfl 25 _ _ rfl ai #[.int .i64 0, .slice none 0 0, .slice (some ⟨k, 0, none⟩) 3 3] rfl rfl 25 _ t (by kernel_rfl) rfl (by simp [Value.oneCell']) ?_;intro a2 rH oH;have bH : Below (ap).heap.size ap a2 := (q.mono o).trans (oH.below o);have b := bo.go a8.out (bH);obtain ⟨S2, j⟩ : ∃ S : World → Prop, S = (fun W => S1 W ∧ Row W ai 25 #[.int .i64 0, .slice none 0 0, .slice (some ⟨k, 0, none⟩) 3 3]) := ⟨_, rfl⟩;have bp : St S2 := by rw [j]; infer_instance
 have D2 : Hid (∀ W, S2 W → S1 W) := by show ∀ W, _; rw [j]; exact fun W h => h.1
 have au : Hid (∀ W, S2 W → Row W ai 25 #[.int .i64 0, .slice none 0 0, .slice (some ⟨k, 0, none⟩) 3 3]) := by show ∀ W, _; rw [j]; exact fun W h => h.2
 have ax : Hid (S2 a2) := by show S2 a2; rw [j]; exact ⟨b, rH⟩
 clear j;clear b a8 o t q rH oH bH;have ac : Hid (∀ W, S2 W → (pR k).ok W) := by show ∀ W, _; exact fun W hW => AjX (a6.out _ (D2.out _ hW))
 go_wp2_with (first | (refine wpList_load_row rfl 25 _ rfl ai rfl 25 #[.int .i64 0, .slice none 0 0, .slice (some ⟨k, 0, none⟩) 3 3] (0, 0) _ (au.out _ ax.out) Tryz.underlying25 rfl (by kernel_rfl) ?_) | (refine ZC _ _ _ rfl ?_))
 refine Stop.to ?_;refine Qt rfl 22 0 _ rfl 3 #[] (fun W => by kernel_rfl) ?_;intro aj bk o t q;have b := bp.go ax.out (q.mono o);obtain ⟨S3, j⟩ : ∃ S : World → Prop, S = (fun W => S2 W ∧ Row W aj 3 #[]) := ⟨_, rfl⟩;have bq : St S3 := by rw [j]; infer_instance
 have D3 : Hid (∀ W, S3 W → S2 W) := by show ∀ W, _; rw [j]; exact fun W h => h.1
 have bv : Hid (∀ W, S3 W → Row W aj 3 #[]) := by show ∀ W, _; rw [j]; exact fun W h => h.2
 have a9 : Hid (S3 bk) := by show S3 bk; rw [j]; exact ⟨b, t⟩
 clear j;clear b ax o t q;go_wp2_with (refine ZC _ _ _ rfl ?_)
 refine Stop.to ?_;refine Qt rfl 26 1 _ rfl 22 (ZN [tvR aj]).toArray (Z2 Tryz.underlying26 Ae3 (by decide) (by decide) (by kernel_rfl)) ?_;intro aw a3 o t q;have b := bq.go a9.out (q.mono o);obtain ⟨S4, j⟩ : ∃ S : World → Prop, S = (fun W => S3 W ∧ Row W aw 22 (ZN [tvR aj]).toArray) := ⟨_, rfl⟩;have bh : St S4 := by rw [j]; infer_instance
 have D4 : Hid (∀ W, S4 W → S3 W) := by show ∀ W, _; rw [j]; exact fun W h => h.1
 have a4 : Hid (∀ W, S4 W → Row W aw 22 (ZN [tvR aj]).toArray) := by show ∀ W, _; rw [j]; exact fun W h => h.2
 have ak : Hid (S4 a3) := by show S4 a3; rw [j]; exact ⟨b, t⟩
 clear j;clear b a9 o t q;go_wp2_with fail
 refine (AiP (pR k) (some ⟨aw, 0, none⟩) 1 [tvR aj] 9 a3 (ac.out _ (D3.out _ (D4.out _ ak.out))) (by show 3 ≤ 40; omega) (Abz (a4.out _ ak.out)) (AhJ _ _) (by simp)).mono ?_;rintro e aq ⟨-, ab, y⟩;obtain ⟨c, rfl, -, hd⟩ := ab (Agp k);have Hc : Hid (c.mts.length = 5 ∧ c.sc = ⟨0, 5, 0⟩) := AjH (w := w) (hd XQ (Acs k));have b := bh.go ak.out (y);replace ak := Lh b;clear b y ab hd;go_wp2_with (refine QS _ rfl ?_)
 refine Stop.to ?_;refine Qk rfl 38 rfl _ _ (XO _) rfl ?_;intro aa bx o t q;go_wp2_with (refine Qv _ _ _ rfl ?_)
 refine Stop.to ?_;refine Ql rfl 38 _ _ rfl aa c.cells rfl rfl 38 _ t (by kernel_rfl) rfl (by simp [CpV.cells, Value.oneCell']) ?_;intro an rH oH;have bH : Below (aq).heap.size aq an := (q.mono o).trans (oH.below o);have b := bh.go ak.out (bH);obtain ⟨S5, j⟩ : ∃ S : World → Prop, S = (fun W => S4 W ∧ Row W aa 38 c.cells) := ⟨_, rfl⟩;have br : St S5 := by rw [j]; infer_instance
 have D5 : Hid (∀ W, S5 W → S4 W) := by show ∀ W, _; rw [j]; exact fun W h => h.1
 have ah : Hid (∀ W, S5 W → Row W aa 38 c.cells) := by show ∀ W, _; rw [j]; exact fun W h => h.2
 have ay : Hid (S5 an) := by show S5 an; rw [j]; exact ⟨b, rH⟩
 clear j;clear b ak o t q rH oH bH;go_wp2_with (first | (refine wpList_load_row rfl 25 _ rfl ai rfl 25 #[.int .i64 0, .slice none 0 0, .slice (some ⟨k, 0, none⟩) 3 3] (0, 0) _ (au.out _ (D3.out _ (D4.out _ (D5.out _ ay.out)))) Tryz.underlying25 rfl (by kernel_rfl) ?_) | (refine ZC _ _ _ rfl ?_))
 refine Stop.to ?_;refine Qt rfl 22 0 _ rfl 3 #[] (fun W => by kernel_rfl) ?_;intro p ar o t q;have b := br.go ay.out (q.mono o);obtain ⟨S6, j⟩ : ∃ S : World → Prop, S = (fun W => S5 W ∧ Row W p 3 #[]) := ⟨_, rfl⟩;have bs : St S6 := by rw [j]; infer_instance
 have D6 : Hid (∀ W, S6 W → S5 W) := by show ∀ W, _; rw [j]; exact fun W h => h.1
 have bw : Hid (∀ W, S6 W → Row W p 3 #[]) := by show ∀ W, _; rw [j]; exact fun W h => h.2
 have ba : Hid (S6 ar) := by show S6 ar; rw [j]; exact ⟨b, t⟩
 clear j;clear b ay o t q;go_wp2_with (refine ZC _ _ _ rfl ?_)
 refine Stop.to ?_;refine Qt rfl 26 1 _ rfl 22 (ZN [tvR p]).toArray (Z2 Tryz.underlying26 Ae3 (by decide) (by decide) (by kernel_rfl)) ?_;intro al ae o t q;have b := bs.go ba.out (q.mono o);obtain ⟨S7, j⟩ : ∃ S : World → Prop, S = (fun W => S6 W ∧ Row W al 22 (ZN [tvR p]).toArray) := ⟨_, rfl⟩;have bt : St S7 := by rw [j]; infer_instance
 have D7 : Hid (∀ W, S7 W → S6 W) := by show ∀ W, _; rw [j]; exact fun W h => h.1
 have a5 : Hid (∀ W, S7 W → Row W al 22 (ZN [tvR p]).toArray) := by show ∀ W, _; rw [j]; exact fun W h => h.2
 have am : Hid (S7 ae) := by show S7 ae; rw [j]; exact ⟨b, t⟩
 clear j;clear b ba o t q;go_wp2_with fail
 refine (Kx (pR k) (some ⟨al, 0, none⟩) 1 [tvR p] 9 ae (ac.out _ (D3.out _ (D4.out _ (D5.out _ (D6.out _ (D7.out _ am.out)))))) (by show 3 ≤ 999; omega) (Abz (a5.out _ am.out)) (AhJ _ _) (by simp)).mono ?_;rintro e af ⟨-, ab, y⟩;obtain ⟨R, rfl, hR, ⟨q1, q2, q3⟩, bf, hf, a0, bg, az, bd, bm⟩ := ab (Agp k);have HS : Hid (RunS (pR k) [[]] 9 0 R) := ⟨⟨q1, q2, q3⟩, bf, hf, a0, by rw [az]; omega, by rw [bd, az]; rfl, bg, Agp _⟩;obtain ⟨lo, ad⟩ : ∃ lo, lo = (ae).heap.size := ⟨_, rfl⟩;have bl : Hid (w.heap.size ≤ lo) := by show _ ≤ _; rw [ad]; exact ((u.out _ (D1.out _ (D2.out _ (D3.out _ (D4.out _ (D5.out _ (D6.out _ (D7.out _ am.out))))))))).size
 have bc : Hid (lo ≤ af.heap.size) := by show _ ≤ _; rw [ad]; exact y.size
 rw [← ad] at hR;have Hx : Hid (R.xs.length = 5) := by show _ = _; rw [← Lu (f := DlV.d), a0 XQ (Acs k)]; exact congrArg List.length Ah1
 clear q1 q2 q3 bf hf a0 bg az bd bm ad;have b := bt.go am.out (y);obtain ⟨S8, j⟩ : ∃ S : World → Prop, S = (fun W => S7 W ∧ RnIn lo R W ∧ lo ≤ W.heap.size) := ⟨_, rfl⟩;have bu : St S8 := by rw [j]; infer_instance
 have D8 : Hid (∀ W, S8 W → S7 W) := by show ∀ W, _; rw [j]; exact fun W h => h.1
 have z : Hid (∀ W, S8 W → RnIn lo R W) := by show ∀ W, _; rw [j]; exact fun W h => h.2.1
 have av : Hid (∀ W, S8 W → lo ≤ W.heap.size) := by show ∀ W, _; rw [j]; exact fun W h => h.2.2
 have x : Hid (S8 af) := by show S8 af; rw [j]; exact ⟨b, hR, bc.out⟩
 clear j;clear b am y ab hR;go_wp2_with (refine wpList_load_row rfl 25 _ rfl ai rfl 25 #[.int .i64 0, .slice none 0 0, .slice (some ⟨k, 0, none⟩) 3 3] (0, 0) _ (au.out _ (D3.out _ (D4.out _ (D5.out _ (D6.out _ (D7.out _ (D8.out _ x.out))))))) Tryz.underlying25 rfl (by kernel_rfl) ?_)
 refine (Kx (pR k) none 0 [] 9 af (ac.out _ (D3.out _ (D4.out _ (D5.out _ (D6.out _ (D7.out _ (D8.out _ x.out))))))) (by show 3 ≤ 999; omega) (Rd.nil _ _) (by simp) (by simp)).mono ?_;rintro e bi ⟨be, -, y⟩;have h0 := be (by rw [show List.map IntsV.l [] = [] from rfl, Agq]; decide);rw [show List.map IntsV.l [] = [] from rfl, Agq] at h0;subst h0;have b := bu.go x.out (y);replace x := Lh b;clear b y be;go_wp2_with fail
 refine (Xt R bi (z.out _ x.out) HS.out (av.out _ x.out) (by show 3 ≤ 40; omega)).mono ?_;rintro e w9 ⟨R2, rfl, hN⟩;rw [Hx.out, show decide (0 < 5) = true from rfl];have h1 := hN.rn;have h2 := hN.tk _ _ _ (ah.out _ (D6.out _ (D7.out _ (D8.out _ x.out)))) (by decide) (by decide);have h3 := ((u.out _ (D1.out _ (D2.out _ (D3.out _ (D4.out _ (D5.out _ (D6.out _ (D7.out _ (D8.out _ x.out)))))))))).trans (hN.low.mono bl.out);have Hg : Hid (R2.g = R.g) := hN.g;have H1 : Hid (RunS (pR k) [[]] 9 1 R2) := hN.s;have H5 : Hid (R2.xs.length = 5) := by show _ = _; rw [hN.xs, Hx.out]
 have ao : Hid (R2.n = 1) := by show _ = _; rw [H1.out.n, H5.out]; rfl
 obtain ⟨S9, j⟩ : ∃ S : World → Prop, S = (fun W => Below w.heap.size w W ∧ Row W aa 38 c.cells ∧ RnIn lo R2 W) := ⟨_, rfl⟩;have a1 : St S9 := by rw [j]; infer_instance
 have u : Hid (∀ W, S9 W → Below w.heap.size w W) := by show ∀ W, _; rw [j]; exact fun W h => h.1
 have ah : Hid (∀ W, S9 W → Row W aa 38 c.cells) := by show ∀ W, _; rw [j]; exact fun W h => h.2.1
 have z : Hid (∀ W, S9 W → RnIn lo R2 W) := by show ∀ W, _; rw [j]; exact fun W h => h.2.2
 have m : Hid (S9 w9) := by show S9 w9; rw [j]; exact ⟨h3, h2, h1⟩
 clear j;clear h1 h2 h3 hN x;have c5 := ((ah.out _ m.out).cellv (i := 5) (v := .slice c.mA 5 c.mcap) (by show some (Value.slice c.mA c.mts.length c.mcap) = _; rw [Hc.out.1]));have c6 := ((ah.out _ m.out).cellv (i := 6) (v := .int .i64 0) (by show some (Value.int .i64 c.sc.alive) = _; rw [Hc.out.2]));have c7 := ((ah.out _ m.out).cellv (i := 7) (v := .int .i64 5) (by show some (Value.int .i64 c.sc.killed) = _; rw [Hc.out.2]));have c8 := ((ah.out _ m.out).cellv (i := 8) (v := .int .i64 0) (by show some (Value.int .i64 c.sc.timeout) = _; rw [Hc.out.2]));go_wp2_with fail
 have Hd := Lh (KI R2.g R2.cells 1 w9 (z.out _ m.out).row (by show some (Value.int .i64 (R2.n : Int)) = _; rw [ao.out]; rfl));rw [Hg.out] at Hd;refine Hd.out.mono ?_;clear Hd;rintro e w' ⟨rfl, hw⟩;replace hw := hw.symm;subst hw;clear c5 c6 c7 c8;go_wp2_with fail
 have Hd := Lh (Y9 R2 w9 (z.out _ m.out) (by rw [ao.out, H5.out]; omega) (by rw [H5.out]; omega));rw [Hg.out] at Hd;refine Hd.out.mono ?_;rintro e bj ⟨rfl, y⟩;rw [show ((R2.xs.length : Int) - (R2.n : Int)) = 4 from by rw [H5.out, ao.out]; rfl];have b := a1.go m.out (y);replace m := Lh b;clear b y Hd;go_wp2_with fail
 have Hd := Lh (Yl R2 bj (z.out _ m.out) H1.out (by show 3 ≤ 40; omega));rw [Hg.out] at Hd;refine Hd.out.mono ?_;rintro e ag ⟨c2, rfl, -, -, hd, y⟩
 have hm : c2.mts.length = 1 := by
  have h := congrArg (fun d => d.muts.length) hd;have h2 : c2.muts.length = c2.mts.length := Lu _;rw [← h2]; refine h.trans ?_;show (List.map _ ((R2.xs.map DlV.d).take R2.n)).length = 1;rw [Lu, L0, Lu, H5.out, ao.out]; rfl
 have hf : ∀ W, (Instr.field 38 (.agg c2.cells) 3).run Tryz.prog W = .ok (.slice c2.mA 1 c2.mcap) W := fun W => by rw [← hm]; kernel_rfl
 clear hd hm;have b := a1.go m.out (y);replace m := Lh b;clear b y Hd;go_wp2_with fail
 clear hf;refine (Ac6 ag).mono ?_;rintro e w' ⟨rfl, hw⟩;replace hw := hw.symm;subst hw;go_wp2_with fail
 refine (Acp ag).mono ?_;rintro e w' ⟨rfl, hw⟩;replace hw := hw.symm;subst hw;go_wp2_with fail
 refine (AcO ag).mono ?_;rintro e w' ⟨rfl, hw⟩;replace hw := hw.symm;subst hw;go_wp2_with fail
 refine (Aca ag).mono ?_;rintro e bz ⟨rfl, y⟩;have hf : ∀ W, (Instr.field 38 (.agg cp0.cells) 1).run Tryz.prog W = .ok (.slice none 0 0) W := fun W => by kernel_rfl
 have b := a1.go m.out (y);replace m := Lh b;clear b y;go_wp2_with fail
 go_ret
 exact ⟨rfl, (u.out _ m.out)⟩
end Go.Proofs.YtkoikjnlpifbjaaGreat
