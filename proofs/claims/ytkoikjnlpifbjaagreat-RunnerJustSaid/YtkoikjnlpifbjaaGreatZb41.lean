/- Lemmas for RunnerJustP. -/
import Derived.Test.YtkoikjnlpifbjaaGreatZb40
import Derived.Test.YtkoikjnlpifbjaaGreatZb19
import Derived.Test.YtkoikjnlpifbjaaGreatZb21
import Derived.Test.YtkoikjnlpifbjaaGreatZb12
import Derived.Test.YtkoikjnlpifbjaaGreatZb13
import Derived.Test.YtkoikjnlpifbjaaGreatZb31
import Derived.Test.YtkoikjnlpifbjaaGreatZb34
import Derived.Test.YtkoikjnlpifbjaaGreatZb26
import Derived.Test.YtkoikjnlpifbjaaGreatZb17
import Derived.Test.YtkoikjnlpifbjaaGreatZb1
set_option linter.unusedVariables false
set_option linter.unusedSimpArgs false
set_option maxRecDepth 100000
set_option maxHeartbeats 16000000
namespace Go.Proofs.YtkoikjnlpifbjaaGreat
open Go.RowKit Go.Deep
structure LikeP (p q : PgV) : Prop where
 par : q.params = p.params
 vars : q.V = p.V
 body : q.body = p.body
theorem LikeP.fine {p q : PgV} (h : LikeP p q) (t : Tr) : Fine q t ↔ Fine p t :=
 ⟨fun k => ⟨(Je h.par h.vars h.body).1 k.good, h.body ▸ k.len, h.body ▸ k.ar, k.dep⟩, fun k => ⟨(Je h.par h.vars h.body).2 k.good, h.body.symm ▸ k.len, h.body.symm ▸ k.ar, k.dep⟩⟩
theorem LikeP.check {p q : PgV} (h : LikeP p q) : QI q = QI p := by
 have b : Good q = Good p := funext fun t => propext (Je h.par h.vars h.body)
 unfold QI;rw [h.par, h.vars, h.body, b]
theorem LikeP.base {p q : PgV} (h : LikeP p q) (ts : List (List Int)) (fuel : Int) : Ze q ts fuel = Ze p ts fuel := by
 unfold Ze;rw [h.check, h.par]
theorem LikeP.mutb {p q : PgV} (h : LikeP p q) (d : Dl) : mutB q d = mutB p d := by
 have b : Fine q = Fine p := funext fun t => propext (h.fine t)
 unfold Go.Proofs.YtkoikjnlpifbjaaGreat.mutB;rw [h.body, b]
theorem LikeP.mutc {p q : PgV} (h : LikeP p q) (d : Dl) : mutC q d = mutC p d := by
 have b : Fine q = Fine p := funext fun t => propext (h.fine t)
 unfold Go.Proofs.YtkoikjnlpifbjaaGreat.mutC;rw [h.check, h.body, b]
theorem LikeP.judC {p q : PgV} (h : LikeP p q) (d : Dl) (ts : List (List Int)) (fuel : Int) : ZW q d ts fuel = ZW p d ts fuel := by
 unfold ZW;rw [h.base, h.mutc]
theorem LikeP.jud {p q : PgV} (h : LikeP p q) (d : Dl) (ts : List (List Int)) (fuel : Int) : QW q d ts fuel = QW p d ts fuel := by
 have b : rnZ q fuel = rnZ p fuel := XT h.par h.vars h.body fuel;have c : rnZ (KG q d) fuel = rnZ (KG p d) fuel := XT (p := KG q d) (q := KG p d) h.par h.vars (h.mutb d) fuel;unfold QW;rw [b, c]
structure RunS (p : PgV) (ts : List (List Int)) (fuel : Int) (k : Nat) (R : RnV) : Prop where
 q : LikeP p R.q
 hts : R.ts.map IntsV.l = ts
 hf : R.fuel = fuel
 xs : ∀ t, Fine p t → R.xs.map DlV.d = Q8 p.body t
 n : R.n = min k R.xs.length
 ms : R.ms.map MtV.m = ((R.xs.map DlV.d).take R.n).map (fun d => QW p d ts fuel)
 xl : R.xs.length ≤ 20000
 base : Ze p ts fuel = 0
theorem RunS.len {p : PgV} {ts : List (List Int)} {fuel : Int} {k : Nat} {R : RnV} (h : RunS p ts fuel k R) : R.ms.length = R.n := by
 have b := congrArg List.length h.ms;have c := h.n;rw [Lz, Lz, L7, Lz] at b;omega
theorem RunS.chk {p : PgV} {ts : List (List Int)} {fuel : Int} {k : Nat} {R : RnV} (h : RunS p ts fuel k R) : QI p = 0 := by
 have c := h.base;unfold Ze at c;split at c
 · rename_i b; exact absurd c b
 · rename_i b; simpa using b
theorem RunS.tl {p : PgV} {ts : List (List Int)} {fuel : Int} {k : Nat} {R : RnV} (h : RunS p ts fuel k R) : R.ts.length ≤ 20 := by
 have b := h.base;unfold Ze at b;split at b
 · rename_i c; exact absurd b c
 · have := (XV b).2.1;rw [← h.hts, Lz] at this;exact this
theorem AaS {lo : Nat} {p : PgV} {ts : List (List Int)} {fuel : Int} {k : Nat} (R : RnV) (W : World) (h : RnIn lo R W) (hs : RunS p ts fuel k R) (hbl : p.body.length ≤ 40) :
 Calls Tryz.prog 11 #[.pointer (some ⟨R.g, 0, none⟩)] W fun e w' => ∃ c : CpV, e = .returned (.agg c.cells) ∧ CpOk w' c ∧ CpT w' c ∧ c.data = ⟨p.params, p.V, p.body, ts, fuel, ((R.xs.map DlV.d).take R.n).map (fun d => QW p d ts fuel), Qx (((R.xs.map DlV.d).take R.n).map (fun d => QW p d ts fuel))⟩ ∧ Below W.heap.size W w' := by
 refine (Ag9 R W h (by rw [hs.q.body]; omega) (by rw [hs.q.vars]; exact Aao hs.chk) (by have := hs.tl; omega) (XL (by rw [hs.hts]; exact hs.base)) (by rw [hs.len]; have := hs.n; have := hs.xl; omega)).mono ?_;rintro e w' ⟨c, rfl, b, i, j, l⟩;exact ⟨c, rfl, b, i, j.trans (by rw [hs.q.par, hs.q.vars, hs.q.body, hs.hts, hs.hf, hs.ms]), l⟩
structure NextS (lo : Nat) (p : PgV) (ts : List (List Int)) (fuel : Int) (k : Nat) (R R' : RnV) (W w' : World) : Prop where
 rn : RnIn lo R' w'
 s : RunS p ts fuel (k + 1) R'
 g : R'.g = R.g
 xs : R'.xs = R.xs
 kp : KpW (fun i => i = R.g ∨ R.mv.ownBlock = some i) W w'
 own : R'.mv.ownBlock = R.mv.ownBlock ∨ ∀ k, R'.mv.ownBlock = some k → W.heap.size ≤ k
 tk : TKeep W w'
 low : Below lo W w'
theorem RnIn.tk {lo : Nat} {R : RnV} {W W' : World} (h : RnIn lo R W) (k : KpW (fun i => i = R.g ∨ R.mv.ownBlock = some i) W W') : TKeep W W' := fun i t cs r a b => k.row r (fun e => by
 rcases e with e | e
 · exact ZT r h.row a e
 · exact QD h.own r (fun x => b x.symm) e)
theorem RnIn.lo {lo : Nat} {R : RnV} {W W' : World} (h : RnIn lo R W) (hlo : lo ≤ W.heap.size) (k : KpW (fun i => i = R.g ∨ R.mv.ownBlock = some i) W W') : Below lo W W' := k.below hlo (fun i e => by
 rcases e with rfl | e
 · exact h.glo
 · exact Q3 h.own e)
theorem Abi {lo : Nat} {p : PgV} {ts : List (List Int)} {fuel : Int} {k : Nat} (R : RnV) (W : World) (h : RnIn lo R W) (hs : RunS p ts fuel k R) (hlo : lo ≤ W.heap.size) (hbl : p.body.length ≤ 40) :
 Calls Tryz.prog 9 #[.pointer (some ⟨R.g, 0, none⟩)] W fun e w' => ∃ R', e = .returned (.bool (decide (k < R.xs.length))) ∧ NextS lo p ts fuel k R R' W w' := by
 have hn := hs.n;have hx := hs.xl;have hts : (R.ts.map IntsV.l).length = R.ts.length := by simp
 by_cases c : k < R.xs.length
 · have w : R.n = k := by omega
   rw [decide_eq_true c];obtain ⟨x, i⟩ : ∃ x, R.xs[k]? = some x := ⟨_, La c⟩;have j := hs.base;rw [← hs.hts] at j;have u := XL j;have hl := hs.tl;have v : ∀ t, Fine p t → x.d ∈ Q8 p.body t := fun t o => by rw [← hs.xs t o]; exact LY (Lj i)
   have hj : ZW R.q x.d (R.ts.map IntsV.l) R.fuel = 0 := by
    rw [hs.q.judC, hs.hts, hs.hf];unfold ZW;rw [if_neg (by rw [hs.base]; simp)];obtain ⟨t, o⟩ := checkP_ok.1 hs.chk;exact AeR o (v t o)
   refine (AhU R x W h hlo (by rw [w]; exact i) hs.len (by omega) (by rw [hs.q.body]; exact hbl) hl u hj).mono ?_;rintro e w' ⟨rfl, bv, mv, y, z, h2, s, h4⟩;refine ⟨_, rfl, z, ⟨hs.q, hs.hts, hs.hf, hs.xs, ?_, ?_, hs.xl, hs.base⟩, rfl, rfl, s, h4, h.tk s, h.lo hlo s⟩
   · show R.n + 1 = min (k + 1) R.xs.length;omega
   · show (R.ms ++ [y]).map MtV.m = ((R.xs.map DlV.d).take (R.n + 1)).map _;rw [LT, hs.ms, LG, LT, L6, w, i];simp only [LQ, Np, Ns, Option.toList_some];rw [h2, hs.q.jud, hs.hts, hs.hf]
 · rw [decide_eq_false c];refine (Adz R W h (by omega) (by omega)).mono ?_;rintro e w' ⟨rfl, b⟩;exact ⟨R, rfl, h.go b, ⟨hs.q, hs.hts, hs.hf, hs.xs, by omega, hs.ms, hs.xl, hs.base⟩, rfl, rfl, KpW.of_below b, .inl rfl, .below b, b.mono hlo⟩
structure RunC (p : PgV) (ts : List (List Int)) (fuel : Int) (w w' : World) (e : Ending) : Prop where
 no : Ze p ts fuel ≠ 0 → e = .returned (.tuple #[.agg cp0.cells, .int .i64 (Ze p ts fuel)])
 yes : Ze p ts fuel = 0 → ∃ c : CpV, e = .returned (.tuple #[.agg c.cells, .int .i64 0]) ∧ CpOk w' c ∧ ∀ t, Fine p t → c.data = ⟨p.params, p.V, p.body, ts, fuel, (Q8 p.body t).map (fun d => QW p d ts fuel), Qx ((Q8 p.body t).map (fun d => QW p d ts fuel))⟩
 low : Below w.heap.size w w'
theorem Ab4 (p : PgV) (A : Option Addr) (cap : Nat) (ts : List IntsV) (fuel : Int) (w : World) (hok : p.ok w) (hbl : p.body.length ≤ 40) (hr : Rd w A (Ji ts)) (hot : ∀ x ∈ ts, x.ok w) (hl : ts.length ≤ 1000) :
 Calls Tryz.prog 14 #[.agg p.cells, .slice A ts.length cap, .int .i64 fuel] w fun e w' => RunC p (ts.map IntsV.l) fuel w w' e := by
 have am := Lv hbl;have Hn : Hid (∀ W, Below w.heap.size w W → _) := fun W b => AbP p A cap ts fuel W (hok.go b) (by omega) (hr.go b) (fun x hx => (hot x hx).go b) hl;clear hok hr hot hbl hl;go_enter Tryz.func14, Tryz.ntmps14
 go_wp2_with (refine Qm _ _ rfl ?_)
 refine Stop.to ?_;refine Qe rfl 25 _ rfl p.cells rfl ?_;intro G w1 hG rG bG;have b1 : Below w.heap.size w w1 := bG.mono hG;have ap : w.heap.size ≤ G := hG;clear bG hG;go_wp2_with (refine QE _ rfl ?_)
 refine Stop.to ?_;refine Qi rfl 38 rfl _ _ (KR _) rfl ?_;intro C w2 hC rC bC;have b2 : Below w.heap.size w w2 := b1.trans ((bC.mono hC).mono b1.size);have ab : Hid (w.heap.size ≤ C) := Li b1.size hC;have ay := rG.below (bC.mono hC) rG.lt;clear b1 bC hC rG ap;go_wp2_with (refine wpList_load_row rfl 25 _ rfl G rfl 25 p.cells (0, 0) _ ay Tryz.underlying25 rfl (by kernel_rfl) ?_)
 refine (Hn.out w2 b2).mono ?_;rintro e w3 j;clear Hn ay;have b3 := b2.trans (j.low.mono b2.size);have aa := rC.below j.low rC.lt;by_cases hz : Ze p (ts.map IntsV.l) fuel = 0
 · obtain ⟨R, rfl, hR, ⟨q1, q2, q3⟩, av, hf, m, aw, aj, au, a0⟩ := j.yes hz;have hS : RunS p (ts.map IntsV.l) fuel 0 R := ⟨⟨q1, q2, q3⟩, av, hf, m, by rw [aj]; omega, by rw [au, aj]; rfl, aw, hz⟩;have o : w.heap.size ≤ w2.heap.size := b2.size;have ag : C < w2.heap.size := rC.lt;obtain ⟨lo, y⟩ : ∃ lo, lo = w2.heap.size := ⟨_, rfl⟩;rw [← y] at hR o ag;have an := Lv o;have a2 := Lv ag;have Hz := Lv hz;obtain ⟨g, z⟩ : ∃ g, g = R.g := ⟨_, rfl⟩;obtain ⟨xs, ac⟩ : ∃ xs, xs = R.xs := ⟨_, rfl⟩;have hrel : ∃ k u, u.g = g ∧ u.xs = xs ∧ k ≤ xs.length ∧ RnIn lo u w3 ∧ RunS p (ts.map IntsV.l) fuel k u ∧ lo ≤ w3.heap.size ∧ Row w3 C 38 cp0.cells ∧ Below w.heap.size w w3 := ⟨0, R, z.symm, ac.symm, Nat.zero_le _, hR, hS, by rw [y]; exact j.low.size, aa, b3⟩;rw [← z];clear j b2 b3 aa rC y hz o ag hR hS q1 q2 q3 av hf m aw aj au a0 z ac;go_wp2_with fail
   go_loopw [21] (fun _ W => ∃ k u, u.g = g ∧ u.xs = xs ∧ k ≤ xs.length ∧ RnIn lo u W ∧ RunS p (ts.map IntsV.l) fuel k u ∧ lo ≤ W.heap.size ∧ Row W C 38 cp0.cells ∧ Below w.heap.size w W) (fun _ W => xs.length - (intOf ((W.cell? ⟨g, 6, none⟩).getD undef)).toNat)
   case atStart => exact hrel
   case round =>
    obtain ⟨k, u, z, m, hk, hR, hS, o, hC, hb⟩ := hrel;have j := Abi u wr hR hS o (by have := am.out; omega);rw [z] at j;have HN := Lv j;have HC := Lv hC;have Hb := Lv hb;have HR := Lv hR;have HS := Lv hS;clear j hR hS hC hb;go_wp2_with fail
    refine HN.out.mono ?_;rintro e w9 ⟨R2, rfl, j⟩;rw [m];by_cases ai : k < xs.length
    · rw [decide_eq_true ai];have d := Lv j;clear j;go_wp2_with fail
      go_roundw
      case rel => exact ⟨k + 1, R2, d.out.g.trans z, d.out.xs.trans m, ai, d.out.rn, d.out.s, Li o (d.out.low.size), d.out.tk _ _ _ HC.out (by decide) (by decide), Hb.out.trans (d.out.low.mono an.out)⟩
      case measure =>
       have c1 := HR.out.row.cellv (i := 6) (v := .int .i64 (u.n : Int)) rfl;have c2 := d.out.rn.row.cellv (i := 6) (v := .int .i64 (R2.n : Int)) rfl;rw [z] at c1;rw [d.out.g, z] at c2;rw [c1, c2];have h1 := HS.out.n;have h2 := d.out.s.n;rw [m] at h1;rw [d.out.xs, m] at h2;simp [intOf];omega
    · rw [decide_eq_false ai];have aq := Lv j.s;have ah := Hb.out.trans (j.low.mono an.out);have af := j.tk _ _ _ HC.out (by decide) (by decide);have ar := j.g.trans z;have ax := Lv (j.xs.trans m);have hK := AaS R2 w9 j.rn j.s (by have := am.out; omega);rw [ar] at hK;have HK := Lv hK;clear j hK HN HR HS HC Hb ar;go_wp2_with fail
      refine HK.out.mono ?_;rintro e a3 ⟨c, rfl, hok, hT, hd, ad⟩;have ae := af.below ad af.lt;have ao := ah.trans (ad.mono ah.size);have az := Lv hok;have HT := Lv hT;have Hd := Lv hd;clear hok hT hd ad HK af ah;go_wp2_with (refine Qp _ _ _ rfl ?_)
      refine Stop.to ?_;refine Qk rfl 38 _ _ rfl C c.cells rfl rfl 38 _ ae (by kernel_rfl) rfl (by simp [CpV.cells, Value.oneCell']) ?_;intro al ak q
      have HF : Hid (RunC p (ts.map IntsV.l) fuel w al (.returned (.tuple #[.agg c.cells, .int .i64 0]))) := ⟨fun h => absurd Hz.out h, fun _ => ⟨c, rfl, az.out.onlyT HT.out q ae, fun t ht => Hd.out.trans (by
       have h1 := aq.out.n
       have h2 := aq.out.xs t ht
       rw [ax.out] at h1 h2
       rw [ax.out, LA (by rw [Lz]; omega), h2])⟩, Ql ao q (Li (Nat.le_refl _) ab.out)⟩
      clear ae ao q;go_wp2_with fail
      refine bodyPost_ret (QN Tryz.results14 _ _ C 38 _ (0, 0) _ rfl ak Tryz.underlying38 rfl (by kernel_rfl)) rfl ?_;exact HF.out
 · have a1 : (Ze p (ts.map IntsV.l) fuel != 0) = true := by simpa using hz
   have he := j.no hz;subst he;have Hz := Lv hz;have Hb := Lv b3;clear j hz b3;go_wp2_with (refine Qp _ _ _ rfl ?_)
   refine Stop.to ?_;refine Qk rfl 38 _ _ rfl C cp0.cells rfl rfl 38 _ aa (by kernel_rfl) rfl (by simp [CpV.cells, cp0, Value.oneCell']) ?_;intro al ak q;have HF : Hid (RunC p (ts.map IntsV.l) fuel w al (.returned (.tuple #[.agg cp0.cells, .int .i64 (Ze p (ts.map IntsV.l) fuel)]))) := ⟨fun _ => rfl, fun h => absurd h Hz.out, Ql Hb.out q ab.out⟩;clear aa q Hb a1;go_wp2_with fail
   refine bodyPost_ret (QN Tryz.results14 _ _ C 38 _ (0, 0) _ rfl ak Tryz.underlying38 rfl (by kernel_rfl)) rfl ?_;exact HF.out
def Sc.small (s : Sc) : Prop := (0 ≤ s.alive ∧ s.alive ≤ 1000000) ∧ (0 ≤ s.killed ∧ s.killed ≤ 1000000) ∧ (0 ≤ s.timeout ∧ s.timeout ≤ 1000000)
def Sc.add (a b : Sc) : Sc := ⟨a.alive + b.alive, a.killed + b.killed, a.timeout + b.timeout⟩
theorem AaE {m : Mt} (h : JY m = true) : m.verdict ≠ -1 := by
 intro e;unfold JY at h;rw [e] at h;simp at h
theorem OkC.verdict {c : CpV} (h : OkC c) {m : Mt} (hm : m ∈ c.muts) : m.verdict ≠ -1 := by
 have := h.odd m hm;unfold AaC at this;cases hr : JY m
 · rw [hr] at this; simp at this
 · exact AaE hr
end Go.Proofs.YtkoikjnlpifbjaaGreat
namespace Go.Proofs.YtkoikjnlpifbjaaGreat
open Go.ChangeShapes Go.WideShapes Go.RowKit Go.Deep
section
variable {H : Type} {enc : TypeId × Value → H} {w : World} {base : Nat} {spare : Nat → Bool} {held : Bool}
theorem AdI {fuel : Nat} {cs : List Value} {x : DataW H × List MemPlace} (h : DataW.trod enc Tryz.prog w base spare held fuel 26 cs = some x) :
 ∃ (A : Option Addr) (cap : Nat) (l : List IntsV), cs = [.slice A l.length cap] ∧ l.length ≤ cap ∧ cap ≤ maxLen ∧ (A = none → cap = 0) ∧ Rd w A (Ji l) ∧ ∀ e ∈ l, e.ok w := by
 obtain ⟨A, cap, g, rfl, c, i, m, o, j, k⟩ := U7 Tryz.underlying26 h;obtain ⟨l, rfl, b⟩ := UJ (fun x : IntsV => [x.val]) (fun x => x.ok w) g (fun s d => by obtain ⟨n, y, q⟩ := k s d; obtain ⟨r, p, e⟩ := EP q; exact ⟨r, e, p⟩);rw [Lz] at c;refine ⟨A, cap, l, by rw [Lz], c, i, m, ?_, b⟩
 rw [show Ji l = (l.map fun x : IntsV => [x.val]).flatten from by
  clear c i m o j k b h
  induction l with
  | nil => rfl
  | cons x l ih => simp only [Ji, LQ, List.flatten_cons, List.singleton_append] at ih ⊢; rw [← ih]]
 exact j
end
end Go.Proofs.YtkoikjnlpifbjaaGreat
namespace Go.Proofs.YtkoikjnlpifbjaaGreat
open Go.RowKit Go.Deep
theorem AbX {W : World} {g : Nat} {t : TypeId} {cs : List Value} (h : Row W g t cs.toArray) : Rd W (some ⟨g, 0, none⟩) cs := Jq h
theorem Ajh : (Tryz.prog.info? 65).map (fun i => (i.zero, i.size)) = some (some (.agg #[.int .i64 0, .int .i64 0]), 2) := by kernel_rfl
theorem AfB : (Tryz.prog.info? 22).map (fun i => (i.zero, i.size)) = some (some (.slice none 0 0), 1) := by kernel_rfl
theorem AiJ {w : World} : (zeroValue 25).run Tryz.prog w = .ok (.agg #[.int .i64 0, .slice none 0 0, .slice none 0 0]) w := by kernel_rfl
theorem Aif {W : World} {g : Nat} {t : TypeId} {cs : List Value} (h : Row W g t cs.toArray) : Rd W (some ⟨g, 0, none⟩) cs := fun j u hj => ⟨_, rfl, by
 have := h.cellv (i := j) (v := u) (by simpa using hj)
 unfold Addr.add
 by_cases h0 : j = 0
 · subst h0; exact this
 · rw [if_neg h0]; simpa using this⟩
def AeK (params : Int) (V : List Int) (body : List Nd) (g1 g2 : Nat) : PgV := ⟨params, some ⟨g1, 0, none⟩, V.length, V, some ⟨g2, 0, none⟩, body.length, body⟩
theorem Ajs {params : Int} {V : List Int} {body : List Nd} {g1 g2 : Nat} {W : World} (hp : InI params) (hv : ∀ t ∈ V, InI t) (hb : ∀ x ∈ body, InI x.tag ∧ InI x.n) (h1 : V.length ≤ maxLen) (h2 : body.length ≤ maxLen)
 (r1 : Row W g1 3 (Qj V).toArray) (r2 : Row W g2 65 (body.flatMap Nd.cells).toArray) : (AeK params V body g1 g2).ok W :=
 ⟨hp, Nat.le_refl _, h1, fun h => (by cases h), Aif r1, hv, Nat.le_refl _, h2, fun h => (by cases h), Aif r2, hb⟩
theorem AjL {p : PgV} {t : Tr} {args : List Int} {fuel v : Int} {s : Ms} {w : World} (hok : p.ok w) (hin : ∀ a ∈ args, InI a) (hc : Zs p args.length fuel = 0) (hg : Good p t) (he : evG (fuel.toNat + 1) (.one t) (Z3 p.V args fuel.toNat) = (v, s)) : QR p args fuel = s.stopped 3 0 := by
 obtain ⟨g, h, e, b⟩ := UK hok hin hc;have := b.good.hat.uniq hg.hat;subst this;have c := b.big.ev (fuel.toNat + 1) (by simp [Z3]);rw [he] at c;have d : s = e := congrArg Prod.snd c;rw [b.eq, d]
theorem Aj7 {params : Int} {V : List Int} {body : List Nd} (w : World) (hp : InI params) (hv : ∀ t ∈ V, InI t) (hb : ∀ x ∈ body, InI x.tag ∧ InI x.n) (h1 : V.length ≤ maxLen) (h2 : body.length ≤ maxLen) : ∃ W g1 g2, (AeK params V body g1 g2).ok W := by
 have c := Row.new w 3 (Qj V).toArray;have d := Row.new (w.alloc (.cells (Qj V).toArray 3)) 65 (body.flatMap Nd.cells).toArray;have b : Below (w.alloc (.cells (Qj V).toArray 3)).heap.size (w.alloc (.cells (Qj V).toArray 3)) ((w.alloc (.cells (Qj V).toArray 3)).alloc (.cells (body.flatMap Nd.cells).toArray 65)) := (Below.refl _ _).alloc (Nat.le_refl _) _;exact ⟨_, _, _, Ajs hp hv hb h1 h2 (c.below b c.lt) d⟩
section
variable {α : Type} (f : α → Rn) (g : Dl → α → Rn) (ts : List α)
def Eb (ds : List Dl) : List Mt := ds.map fun d => QZ f (g d) d ts
variable {f g ts}
theorem Af3 {ds : List Dl} : (Eb f g ts ds).length = ds.length := by unfold Eb; simp
theorem UX {ds : List Dl} {m : Mt} (h : m ∈ Eb f g ts ds) : m.d ∈ ds ∧ m = QZ f (g m.d) m.d ts := by
 unfold Eb at h;obtain ⟨d, b, rfl⟩ := LR.1 h;exact ⟨by rw [KO]; exact b, by rw [KO]⟩
theorem Ec : ∀ {ds : List Dl}, KJ ds → KL (Eb f g ts ds)
 | [], _ => trivial
 | [_], _ => trivial
 | a :: b :: l, h => ⟨by rw [KO, KO]; exact h.1, Ec (ds := b :: l) h.2⟩
end
theorem Vn {α β : Type} {f : α → List β} {k : Nat} : ∀ {l : List α}, (∀ a ∈ l, (f a).length ≤ k) → (l.flatMap f).length ≤ k * l.length
 | [], _ => by simp
 | a :: l, h => by
  have h1 := h a (by simp)
  have h2 := Vn (f := f) (l := l) fun b hb => h b (by simp [hb])
  rw [LI, Lf, Le, Nat.mul_add]
  omega
theorem Ag5 {l : List Nd} {t : Tr} (hw : Whole l t) (ha : ∀ x ∈ l, ¬ Qu x < 0) : (Q8 l t).length ≤ 100 * l.length := by
 unfold Q8
 have h := Vn (f := fun e : Nat × List Int => (Z7 l e.1).map fun c => (⟨e.2, c.1, c.2⟩ : Dl)) (k := 100) (l := Q4 [] 0 t) fun e g => by
  obtain ⟨q, π⟩ := e;rw [Lz];obtain ⟨k, i⟩ := (JO t [] 0 q π).1 (by simpa using g);have hat := Un hw.hat i;have j := hat.lt
  have b : ¬ Qu k.root < 0 := by
   obtain ⟨r, b⟩ := hat.here
   have d : l[q]? = some k.root := by
    have := congrArg (·[0]?) b;obtain ⟨x, m⟩ := k;simpa [Nv, Tr.flat, Tr.root] using this
   exact ha _ (Lj d)
  exact X0 l q hat b
 rwa [Jf, hw.size] at h
theorem Ai1 {α : Type} {f : α → Rn} {g : Dl → α → Rn} {ts : List α} {c : CpV} {t : Tr} (hf : Fine c.p t) (hs : ZR c.p.params c.testsL c.fuel = 0) (hb : c.p.body.length ≤ 20) (hm : c.muts = Eb f g ts (Q8 c.p.body t)) (ht : c.testsL.length = ts.length)
 (hg : ∀ d ∈ Q8 c.p.body t, ∀ a ∈ ts, 0 ≤ (g d a).kind ∧ (g d a).kind ≤ 4 ∧ ((g d a).kind = 0 ∨ (g d a).value = 0) ∧ (g d a).dig.length = 32) (hsc : c.sc = Qx c.muts) : OkC c := by
 have j : ts.length ≤ 20 := by
  rw [← ht];have h := hs;unfold ZR at h;by_cases e : c.testsL.length < 1 ∨ 20 < c.testsL.length
  · rw [if_pos e] at h; cases h
  · omega
 refine ⟨checkP_ok.2 ⟨t, hf⟩, hs, ?_, ?_, fun m b => ?_, fun m b => ?_, hsc⟩
 · rw [hm, Af3];have := Ag5 hf.good.whole hf.ar;omega
 · rw [hm]; exact Ec (YJ _ _)
 · rw [hm] at b;exact (Ac2 hf _).2 (UX b).1
 · rw [hm] at b;obtain ⟨e, i⟩ := Vo (f := f) (g := g m.d) (d := m.d) j (hg m.d (UX b).1);rw [← (UX b).2] at e i;unfold AaC;rw [e, ht];simpa using i
theorem X2 (l : List Mt) (v : Int) : 0 ≤ ZI l v ∧ ZI l v ≤ l.length := by
 unfold ZI;have := N2 (fun m : Mt => m.verdict == v) l;omega
theorem AdR (l : List Mt) (h : l.length ≤ 100000) : (Qx l).small := by
 have b := X2 l 0;have c := X2 l 1;have d := X2 l 2;unfold Sc.small Qx;exact ⟨⟨b.1, by show ZI l 0 ≤ _; omega⟩, ⟨c.1, by show ZI l 1 ≤ _; omega⟩, d.1, by show ZI l 2 ≤ _; omega⟩
def Sc.tot (s : Sc) : Int := s.alive + s.killed + s.timeout
theorem AdQ (s : Sc) (w : World) (hs : s.small) :
 Calls Tryz.prog 17 #[.agg s.cells] w fun e w' => e = .returned (.int .i64 s.tot) ∧ Below w.heap.size w w' := by
 obtain ⟨b, d, g⟩ := s;obtain ⟨⟨x, y⟩, ⟨z, b1⟩, c0, c1⟩ := hs;simp only at x y z b1 c0 c1;unfold Sc.tot Sc.cells;dsimp only;have h := Lv (fun W => Aik ⟨b, d, g⟩ W);unfold Sc.cells at h;dsimp only at h;go_enter Tryz.func17, Tryz.ntmps17
 go_wp2_with (refine Qm _ _ rfl ?_)
 refine Stop.to ?_;refine Qe rfl 36 _ rfl #[.int .i64 b, .int .i64 d, .int .i64 g] rfl ?_;intro G v p q o;have k := (Below.refl w.heap.size w).trans (o.mono p);go_wp2_with (refine wpList_load_row rfl 36 _ rfl G rfl 36 #[.int .i64 b, .int .i64 d, .int .i64 g] (0, 0) _ q Tryz.underlying36 rfl (by kernel_rfl) ?_)
 refine (h.out v).mono ?_;rintro e w1 ⟨rfl, t⟩;have u := k.trans (t.mono k.size);clear q o p t k h;go_wp2_with fail
 go_loopw [3, 8] (fun c i wr => ((i = .int .i64 0 ∧ c = .int .i64 0) ∨ (i = .int .i64 1 ∧ c = .int .i64 b) ∨ (i = .int .i64 2 ∧ c = .int .i64 (b + d)) ∨ (i = .int .i64 3 ∧ c = .int .i64 (b + d + g))) ∧ Below w.heap.size w wr) (fun _ i _ => 3 - (intOf i).toNat)
 case atStart => exact ⟨.inl ⟨rfl, rfl⟩, u⟩
 case round =>
  clear u;obtain ⟨hr, j⟩ := hrel;have l : ∀ w, (Instr.index 108 (.agg #[.int .i64 b, .int .i64 d, .int .i64 g]) (.int .i64 0)).run Tryz.prog w = .ok (.int .i64 b) w := fun _ => by kernel_rfl
  have m : ∀ w, (Instr.index 108 (.agg #[.int .i64 b, .int .i64 d, .int .i64 g]) (.int .i64 1)).run Tryz.prog w = .ok (.int .i64 d) w := fun _ => by kernel_rfl
  have n : ∀ w, (Instr.index 108 (.agg #[.int .i64 b, .int .i64 d, .int .i64 g]) (.int .i64 2)).run Tryz.prog w = .ok (.int .i64 g) w := fun _ => by kernel_rfl
  rcases hr with ⟨rfl, rfl⟩ | ⟨rfl, rfl⟩ | ⟨rfl, rfl⟩ | ⟨rfl, rfl⟩
  · go_wp2_with fail
    go_roundw
    case rel => exact ⟨.inr (.inl ⟨rfl, by first | rfl | simp⟩), j⟩
    case measure => simp [intOf]
  · go_wp2_with fail
    go_roundw
    case rel => exact ⟨.inr (.inr (.inl ⟨rfl, by first | rfl | simp⟩)), j⟩
    case measure => simp [intOf]
  · go_wp2_with fail
    go_roundw
    case rel => exact ⟨.inr (.inr (.inr ⟨rfl, by first | rfl | simp⟩)), j⟩
    case measure => simp [intOf]
  · clear l m n;go_wp2_with fail
    go_ret
    exact ⟨rfl, j⟩
theorem Yo (m : Mt) (l : List Mt) (v : Int) : ZI (m :: l) v = (if m.verdict = v then 1 else 0) + ZI l v := by
 unfold ZI;rw [List.filter_cons];by_cases h : m.verdict = v <;> simp [h]; omega
theorem Ae9 {l : List Mt} (h : ∀ m ∈ l, JY m = true) : (Qx l).tot = l.length := by
 induction l with
 | nil => rfl
 | cons m l ih =>
  have d := ih (fun x k => h x (NK _ k));have b := h m (List.mem_cons_self);unfold Sc.tot Qx at d ⊢;dsimp only at d ⊢;rw [Yo, Yo, Yo, Le]
  have j : m.verdict = 0 ∨ m.verdict = 1 ∨ m.verdict = 2 := by
   unfold JY at b;by_cases c : m.verdict = 0
   · exact .inl c
   · by_cases g : m.verdict = 1
     · exact .inr (.inl g)
     · by_cases i : m.verdict = 2
       · exact .inr (.inr i)
       · rw [if_neg c, if_neg g, if_neg i] at b; cases b
  rcases j with e | e | e <;> rw [e] <;> simp <;> omega
theorem Aij {p : PgV} {args : List Int} {fuel : Int} (w : World) (hin : ∀ a ∈ args, InI a) (hp : InI p.params) (hv : ∀ t ∈ p.V, InI t) (hb : ∀ x ∈ p.body, InI x.tag ∧ InI x.n) (h1 : p.V.length ≤ maxLen) (h2 : p.body.length ≤ maxLen) : 0 ≤ (rnZ p fuel args).kind ∧ (rnZ p fuel args).kind ≤ 4 ∧ ((rnZ p fuel args).kind = 0 ∨ (rnZ p fuel args).value = 0) ∧ (rnZ p fuel args).dig.length = 32 := by
 have b : (rnZ p fuel args).dig.length = 32 := AcT _;by_cases g : Zs p args.length fuel = 0
 · obtain ⟨W, d, e, c⟩ := Aj7 (params := p.params) (V := p.V) (body := p.body) w hp hv hb h1 h2;rw [XT (p := p) (q := AeK p.params p.V p.body d e) rfl rfl rfl fuel] at b ⊢;obtain ⟨t, v, s, h⟩ := UK (fuel := fuel) c hin ((Ul (p := p) (q := AeK p.params p.V p.body d e) rfl rfl rfl args.length fuel).symm.trans g);obtain ⟨k, x, i, j⟩ := h.kind;unfold rnZ at b ⊢;rw [i];show 0 ≤ k ∧ k ≤ 4 ∧ (k = 0 ∨ x = 0) ∧ _;exact ⟨by omega, by omega, by omega, b⟩
 · unfold rnZ at b ⊢;rw [UL g] at b ⊢;exact ⟨by decide, by decide, .inl rfl, b⟩
theorem AhT {p : PgV} {t : Tr} {d : Dl} {args : List Int} {fuel : Int} {w : World} (hok : p.ok w) (hf : Fine p t) (hd : d ∈ Q8 p.body t) (hin : ∀ a ∈ args, InI a) : 0 ≤ (rnZ (KG p d) fuel args).kind ∧ (rnZ (KG p d) fuel args).kind ≤ 4 ∧ ((rnZ (KG p d) fuel args).kind = 0 ∨ (rnZ (KG p d) fuel args).value = 0) ∧ (rnZ (KG p d) fuel args).dig.length = 32 := by
 obtain ⟨q, k, b, _⟩ := hf.good.change hd;have c := AcA hf.good hd b hok.bin;have e := VN hf b;refine Aij w hin hok.par hok.vin (by show ∀ x ∈ mutB p d, _; rw [e]; exact c.1) (Li hok.vlen hok.vmax) ?_;show (mutB p d).length ≤ maxLen;rw [e];have := c.2;have := hf.len;unfold maxLen;omega
theorem AaR {p : PgV} {ts : List (List Int)} {fuel : Int} (h : Ze p ts fuel = 0) : (∃ t, Fine p t) ∧ ZR p.params ts fuel = 0 := by
 unfold Ze at h;split at h
 · rename_i b; exact absurd h b
 · rename_i b; exact ⟨checkP_ok.1 (by simpa using b), h⟩
structure CampF (p : PgV) (t : Tr) (c : CpV) : Prop where
 ok : OkC c
 len : c.mts.length = (Q8 p.body t).length
 small : c.sc.small
 tot : c.sc.tot = ((Q8 p.body t).length : Int)
theorem Aei {p : PgV} {ts : List (List Int)} {fuel : Int} {t : Tr} {c : CpV} {w : World} (hok : p.ok w) (h0 : Ze p ts fuel = 0) (hf : Fine p t) (hb : p.body.length ≤ 20) (hin : ∀ l ∈ ts, ∀ a ∈ l, InI a)
 (hd : c.data = ⟨p.params, p.V, p.body, ts, fuel, (Q8 p.body t).map (fun d => QW p d ts fuel), Qx ((Q8 p.body t).map fun d => QW p d ts fuel)⟩) : CampF p t c := by
 obtain ⟨e, u, v, b, n, mA, mc, j, sc⟩ := c;have x : e.params = p.params := congrArg Cd.params hd;have e2 : e.V = p.V := congrArg Cd.V hd;have o : e.body = p.body := congrArg Cd.body hd;have y : b.map IntsV.l = ts := congrArg Cd.tests hd;have e5 : n = fuel := congrArg Cd.fuel hd;have q : j.map MtV.m = (Q8 p.body t).map (fun d => QW p d ts fuel) := congrArg Cd.muts hd;have s : sc = Qx ((Q8 p.body t).map fun d => QW p d ts fuel) := congrArg Cd.sc hd;have hs := (AaR h0).2;have hl := (XV hs).2.1;have z : ∀ d ∈ Q8 p.body t, ∀ a ∈ ts, 0 ≤ (rnZ (KG p d) fuel a).kind ∧ (rnZ (KG p d) fuel a).kind ≤ 4 ∧ ((rnZ (KG p d) fuel a).kind = 0 ∨ (rnZ (KG p d) fuel a).value = 0) ∧ (rnZ (KG p d) fuel a).dig.length = 32 := fun d i a ha => AhT hok hf i (hin a ha);have k : j.length = (Q8 p.body t).length := by have h := congrArg List.length q; rwa [Lz, Lz] at h
 have ok : OkC (CpV.mk e u v b n mA mc j sc) := Ai1 (f := rnZ p fuel) (g := fun d => rnZ (KG p d) fuel) (ts := ts) (t := t) (LikeP.fine ⟨x, e2, o⟩ t |>.2 hf) (by show ZR e.params (b.map IntsV.l) n = 0; rw [x, y, e5]; exact hs) (by show e.body.length ≤ 20; rw [o]; exact hb) (by show j.map MtV.m = Eb _ _ ts (Q8 e.body t); rw [o]; exact q) (by show (b.map IntsV.l).length = _; rw [y]) (by show ∀ d ∈ Q8 e.body t, _; rw [o]; exact z) (by show sc = Qx (j.map MtV.m); rw [q]; exact s)
 have hr : ∀ m ∈ (Q8 p.body t).map (fun d => QW p d ts fuel), JY m = true := fun m hm => by
  obtain ⟨d, i, rfl⟩ := LR.1 hm;exact (Vo hl (z d i)).1
 have aa : ((Q8 p.body t).map fun d => QW p d ts fuel).length ≤ 2000 := by have := ok.len; rwa [show (CpV.mk e u v b n mA mc j sc).muts = j.map MtV.m from rfl, q] at this
 refine ⟨ok, k, ?_, ?_⟩
 · show sc.small;rw [s];exact AdR _ (by omega)
 · show sc.tot = _;rw [s, Ae9 hr, Lz]
theorem AjO {y : MtV} {x : DlV} {W : World} (hy : MtOk W y) (hx : DlOk W x) (e : y.m.d = x.d) : Calls Tryz.prog 19 #[.agg #[.slice y.A y.m.d.path.length y.cap, .int .i64 y.m.d.op, .int .i64 y.m.d.n], .agg #[.slice x.A x.d.path.length x.cap, .int .i64 x.d.op, .int .i64 x.d.n]] W fun e w' => e = .returned (.bool true) ∧ Below W.heap.size W w' := by
 have h := Eo y.dl x W hy.dl hx;rwa [show decide (Z8 y.dl.d x.d = 0) = true from decide_eq_true (by show Z8 y.m.d x.d = 0; rw [e]; exact YL _)] at h
instance St.mtT {y : MtV} : St (fun W => MtT W y) := ⟨fun h b => h.go b⟩
theorem AjP {y z : MtV} {W : World} (hy : MtOk W y) (hz : MtOk W z) (e : y.m = z.m) : Calls Tryz.prog 20 #[.agg y.cells.toArray, .agg z.cells.toArray] W fun e w' => e = .returned (.bool true) ∧ Below W.heap.size W w' := by
 have h := AeP y z W hy hz;rwa [sameM_iff.2 e] at h
theorem Ajn {p : PgV} {t : Tr} {d : Dl} {ts : List (List Int)} {fuel : Int} (h0 : Ze p ts fuel = 0) (hf : Fine p t) (hd : d ∈ Q8 p.body t) : ZW p d ts fuel = 0 := by
 unfold ZW;rw [if_neg (by rw [h0]; simp)];exact AeR hf hd
theorem Ai0 {p : PgV} {ts : List (List Int)} {fuel : Int} {t : Tr} {c : CpV} {xs : List DlV} {n : Nat} {x : DlV} (hd : c.data = ⟨p.params, p.V, p.body, ts, fuel, (Q8 p.body t).map (fun d => QW p d ts fuel), Qx ((Q8 p.body t).map fun d => QW p d ts fuel)⟩) (hx : xs.map DlV.d = Q8 p.body t) (h : xs[n]? = some x) :
 ∃ y, c.mts[n]? = some y ∧ y.m = QW p x.d ts fuel ∧ y.m.d = x.d := by
 have e : c.mts.map MtV.m = (Q8 p.body t).map (fun d => QW p d ts fuel) := congrArg Cd.muts hd;have b := congrArg (·[n]?) e;simp only [← hx, L6, h, Ns] at b;cases hm : c.mts[n]? with
 | none => rw [hm] at b; cases b
 | some y =>
  rw [hm] at b;have g : y.m = QW p x.d ts fuel := by injection b
  exact ⟨y, rfl, g, by rw [g]; exact KO⟩
theorem Ako {W : World} {a : Addr} {y : MtV} (h : ∀ j u, y.cells[j]? = some u → W.cell? (a.add j) = some u) : ∀ j u, ([.slice y.A y.m.d.path.length y.cap, .int .i64 y.m.d.op, .int .i64 y.m.d.n] : List Value)[j]? = some u → W.cell? (a.add j) = some u := fun j u hj => h j u (by
 match j, hj with
 | 0, hj | 1, hj | 2, hj => exact hj
 | j + 3, hj => simp at hj)
def bodyR : List Nd := [⟨20, 1⟩, ⟨25, 0⟩, ⟨1, 1⟩]
def Yf : Tr := .node ⟨20, 1⟩ [.node ⟨25, 0⟩ [.node ⟨1, 1⟩ []]]
def pR (g : Nat) : PgV := ⟨0, none, 0, [], some ⟨g, 0, none⟩, 3, bodyR⟩
theorem AkP {x : Nd} (h : Qu x = 0) : (Tr.node x []).fits := .mk _ _ (by rw [h]; rfl) (fun k hk => by simp at hk)
theorem Aj9 {x : Nd} {k : Tr} (h : Qu x = 1) (hk : k.fits) : (Tr.node x [k]).fits := .mk _ _ (by rw [h]; rfl) (fun j hj => by rw [L3.1 hj]; exact hk)
theorem AhA (g : Nat) : Good (pR g) Yf := ⟨⟨Aj9 rfl (Aj9 rfl (AkP rfl)), [], by rfl⟩, by rfl, by show Xj 0 []; decide, rfl, by show ofT [] Yf = 2; decide +kernel⟩
theorem AcX (g : Nat) : Fine (pR g) Yf := ⟨AhA g, by simp [pR, bodyR], by show ∀ x ∈ bodyR, ¬ Qu x < 0; decide, by decide +kernel⟩
theorem Aii {p : PgV} {t : Tr} {v k n : Int} {s : Ms} (w : World) (h1 : p.params = 0) (h2 : p.V = []) {b : List Nd} (h3 : p.body = b) (hb : ∀ x ∈ b, InI x.tag ∧ InI x.n) (hl : b.length ≤ 9) (hg : Good p t) (he : evG 10 (.one t) (Z3 [] [] 9) = (v, s)) (ho : (s.stopped 3 0).out = some (k, n)) : (rnZ p 9 []).kind = k ∧ (rnZ p 9 []).value = n := by
 obtain ⟨W, c, d, e⟩ := Aj7 (params := 0) (V := []) (body := b) w (by unfold InI; omega) (by simp) hb (by unfold maxLen; simp) (by unfold maxLen; omega);rw [XT (q := AeK 0 [] b c d) h1 h2 h3];have h := AjL e (args := []) (fuel := 9) (by simp) (by rw [JL ((Je (q := AeK 0 [] b c d) h1 h2 h3).1 hg)]; rfl) ((Je (q := AeK 0 [] b c d) h1 h2 h3).1 hg) he;unfold rnZ;rw [h, ho];exact ⟨rfl, rfl⟩
theorem AiP : Q8 bodyR Yf = [⟨[0], 5, 0⟩, ⟨[0], 7, 0⟩, ⟨[0, 0], 4, -1⟩, ⟨[0, 0], 4, 0⟩, ⟨[0, 0], 4, 2⟩] := by kernel_rfl
theorem AfD {p : PgV} {d : Dl} {k n : Int} (a : (rnZ p 9 []).kind = 0 ∧ (rnZ p 9 []).value = 1) (b : (rnZ (KG p d) 9 []).kind = k ∧ (rnZ (KG p d) 9 []).value = n) (h : Q9 ⟨0, 1, []⟩ ⟨k, n, []⟩ = 1) : (QW p d [[]] 9).verdict = 1 := by
 unfold QW
 have e := Y7 (f := rnZ p 9) (g := rnZ (KG p d) 9) (d := d) (pre := []) (rest := []) (x := []) (by simp [Q2]) (by
  unfold Q9 at h ⊢
  rw [a.1, a.2, b.1, b.2]
  exact h)
 rw [Lp] at e;rw [e]
theorem AkR (g : Nat) (w : World) : ∀ d ∈ Q8 bodyR Yf, (QW (pR g) d [[]] 9).verdict = 1 := by
 intro d i;obtain ⟨q, k, l, _, _, _, _, j⟩ := (AhA g).change i;have c := VN (AcX g) l;have e := j (KG (pR g) d) rfl rfl c;have h := Aii (p := pR g) (b := bodyR) w rfl rfl rfl (by simp [bodyR, InI]) (by simp [bodyR]) (AhA g) (v := 0) (s := ⟨[], [], 6, 3, [], some (0, 1)⟩) (by kernel_rfl) rfl;rw [AiP] at i;simp only [L2, L9, or_false] at i;rcases i with rfl | rfl | rfl | rfl | rfl
 all_goals
  first
  | (obtain ⟨rfl, rfl⟩ := Prod.mk.inj (Option.some.inj l)
     first
     | exact AfD h (Aii w rfl rfl (b := [⟨20, 1⟩, ⟨26, 0⟩]) c (by simp [InI]) (by simp) e (v := 0) (s := ⟨[], [], 7, 2, [], none⟩) (by kernel_rfl) rfl) (by decide)
     | exact AfD h (Aii w rfl rfl (b := [⟨20, 1⟩, ⟨25, 0⟩, ⟨1, 0⟩]) c (by simp [InI]) (by simp) e (v := 0) (s := ⟨[], [], 6, 3, [], some (0, 0)⟩) (by kernel_rfl) rfl) (by decide)
     | exact AfD h (Aii w rfl rfl (b := [⟨20, 1⟩, ⟨25, 0⟩, ⟨1, -1⟩]) c (by simp [InI]) (by simp) e (v := 0) (s := ⟨[], [], 6, 3, [], some (0, -1)⟩) (by kernel_rfl) rfl) (by decide)
     | exact AfD h (Aii w rfl rfl (b := [⟨20, 1⟩, ⟨25, 0⟩, ⟨1, 2⟩]) c (by simp [InI]) (by simp) e (v := 0) (s := ⟨[], [], 6, 3, [], some (0, 2)⟩) (by kernel_rfl) rfl) (by decide))
theorem AkF {g : Nat} {c : CpV} {v ts f pr b} (w : World) (h : c.data = ⟨pr, v, b, ts, f, (Q8 bodyR Yf).map (fun d => QW (pR g) d [[]] 9), Qx ((Q8 bodyR Yf).map fun d => QW (pR g) d [[]] 9)⟩) : c.mts.length = 5 ∧ c.sc = ⟨0, 5, 0⟩ := by
 have o : c.mts.map MtV.m = _ := congrArg Cd.muts h;have p : c.sc = _ := congrArg Cd.sc h;have k := congrArg List.length o;rw [Lz, Lz, AiP] at k;refine ⟨k, p.trans ?_⟩
 have j : ∀ m ∈ (Q8 bodyR Yf).map (fun d => QW (pR g) d [[]] 9), m.verdict = 1 := fun m i => by
  obtain ⟨d, q, rfl⟩ := LR.1 i;exact AkR g w d q
 have n : ((Q8 bodyR Yf).map (fun d => QW (pR g) d [[]] 9)).length = 5 := by rw [Lz, AiP]; rfl
 generalize (Q8 bodyR Yf).map (fun d => QW (pR g) d [[]] 9) = l at j n
 have e : ∀ v : Int, ZI l v = if v = 1 then 5 else 0 := fun v => by
  unfold ZI;split
  · rename_i h; subst h; rw [List.filter_eq_self.2 fun m i => by rw [j m i]; rfl, n]; rfl
  · rename_i h; rw [List.filter_eq_nil_iff.2 fun m i => by rw [j m i]; simpa using fun e => h e.symm]; rfl
 unfold Qx;rw [e, e, e]; rfl
section
variable {w : World} (A B C D E F G H I : World → Prop) [sA : St A] [sB : St B] [sC : St C] [sD : St D] [sE : St E] [sF : St F] [sG : St G] [sH : St H] [sI : St I]
theorem Ald (a : A w) : ∃ S : World → Prop, St S ∧ Hid (S w) ∧ Hid (∀ W, S W → A W) := ⟨A, sA, a, fun _ h => h⟩
theorem Ev (a : A w) (b : B w) : ∃ S : World → Prop, St S ∧ Hid (S w) ∧ Hid (∀ W, S W → A W) ∧ Hid (∀ W, S W → B W) := ⟨fun W => A W ∧ B W, inferInstance, ⟨a, b⟩, fun _ h => h.1, fun _ h => h.2⟩
theorem Aja (a : A w) (b : B w) (c : C w) : ∃ S : World → Prop, St S ∧ Hid (S w) ∧ Hid (∀ W, S W → A W) ∧ Hid (∀ W, S W → B W) ∧ Hid (∀ W, S W → C W) := ⟨fun W => A W ∧ B W ∧ C W, inferInstance, ⟨a, b, c⟩, fun _ h => h.1, fun _ h => h.2.1, fun _ h => h.2.2⟩
theorem Ale (a : A w) (b : B w) (c : C w) (d : D w) : ∃ S : World → Prop, St S ∧ Hid (S w) ∧ Hid (∀ W, S W → A W) ∧ Hid (∀ W, S W → B W) ∧ Hid (∀ W, S W → C W) ∧ Hid (∀ W, S W → D W) := ⟨fun W => A W ∧ B W ∧ C W ∧ D W, inferInstance, ⟨a, b, c, d⟩, fun _ h => h.1, fun _ h => h.2.1, fun _ h => h.2.2.1, fun _ h => h.2.2.2⟩
theorem exT {A : World → Prop} [sA : St A] (h : A w) : ∃ T : World → Prop, Hid (∀ W, T W → A W) ∧ Hid (∀ W, T W → w.heap.size ≤ W.heap.size) ∧ Hid (∀ W W', T W → Below w.heap.size W W' → T W') ∧ T w := ⟨fun W => Below w.heap.size w W, fun _ b => sA.go h b, fun _ b => b.size, fun _ _ a b => a.trans b, Below.refl _ _⟩
end
end Go.Proofs.YtkoikjnlpifbjaaGreat
