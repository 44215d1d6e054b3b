/- Lemmas for RunnerJustP. -/
import Derived.Test.YtkoikjnlpifbjaaGreatZb1
import Derived.Test.YtkoikjnlpifbjaaGreatZb34
import Derived.Test.YtkoikjnlpifbjaaGreatZb35
import Derived.Test.YtkoikjnlpifbjaaGreatZb11
set_option linter.unusedVariables false
set_option linter.unusedSimpArgs false
set_option maxRecDepth 100000
set_option maxHeartbeats 16000000
namespace Go.Proofs.YtkoikjnlpifbjaaGreat
open Go.RowKit Go.Deep
attribute [local go_sem] Oper.semAt_some
def mt0 : MtV := ⟨none, 0, ⟨⟨[], 0, 0⟩, 0, 0, 0, 0, []⟩⟩
structure JudR (p : PgV) (d : Dl) (ts : List (List Int)) (fuel : Int) (w w' : World) (e : Ending) : Prop where
 ex : ∃ y : MtV, e = .returned (.tuple #[.agg y.cells.toArray, .int .i64 (ZW p d ts fuel)]) ∧ (ZW p d ts fuel = 0 → y.m = QW p d ts fuel ∧ MtT w' y) ∧ (ZW p d ts fuel ≠ 0 → y = mt0) ∧ Below w.heap.size w w'
theorem Xm (w : World) : (zeroValue 54).run Tryz.prog w = .ok (.agg mt0.cells.toArray) w := by kernel_rfl
theorem AiK {w : World} : (zeroValue 25).run Tryz.prog w = .ok (.agg #[.int .i64 0, .slice none 0 0, .slice none 0 0]) w := by kernel_rfl
theorem Aj2 (w : World) : (zeroValue 116).run Tryz.prog w = .ok .nilFunc w := by kernel_rfl
theorem AiV {ops : Array Oper} {rest : List Oper} {o : Oper} {a : Act} {w : World} {Q : Exit → Act → World → Prop} (s x : Operand) (t u : TypeId) (_ : o.op = .call { callee := .builtin .append, args := #[s, x], argTypes := #[t, u] }) (h : Stop (wpList Tryz.prog ops Q (o :: rest) a w) id) : wpList Tryz.prog ops Q (o :: rest) a w := h.out
theorem AjF {W : World} {l : List Int} (h : Rd W none (Qj l)) : l = [] := by
 cases l with
 | nil => rfl
 | cons x l => obtain ⟨_, e, _⟩ := h 0 (.int .i64 x) rfl; cases e
theorem Ah3 : ∀ {l : List Rn} {k : Nat} {b : Rn}, l[k]? = some b → JD l ≠ []
 | [], _, _, h => by simp at h
 | y :: ys, _, _, _ => by simp [JD, Rn.cells, Xn]
theorem Adu {W : World} {A : Option Addr} {cap : Nat} {d : Dl} {mm : Mt} (hd : mm.d = d) (hg : mm.digest.length ≤ 1000000) (h : MtT W ⟨A, cap, ⟨d, 0, 0, 0, 0, []⟩⟩) : MtT W ⟨A, cap, mm⟩ := by
 subst hd;exact ⟨⟨h.1.rd, h.1.len, h.1.nil, hg⟩, h.2⟩
theorem Adt {W W' : World} {x : MtV} {g : Nat} {t : TypeId} {cs : Array Value} (h : MtT W x) (hr : Row W g t cs) (ht : t ≠ 3) (o : Only g W W') : MtT W' x := h.same fun a cs' _ k => k.only o (fun e => by
 have h1 : W.heap[g]? = some (.cells cs' 3 (0, 0)) := by rw [← e]; exact k
 rw [show W.heap[g]? = some (.cells cs t (0, 0)) from hr] at h1
 injection h1 with h1; injection h1 with _ h1; exact ht h1)
theorem VR (p : PgV) (fuel : Int) (a : List Int) : (rnZ p fuel a).dig.length = 32 := AcT _
theorem YP {f g : List Int → Rn} (d : Dl) (ts : List (List Int)) (h : ∀ a, (g a).dig.length = 32) : (QZ f g d ts).digest.length ≤ 1000000 := by
 by_cases b : (QZ f g d ts).verdict = 0
 · rw [X5] at b; rw [Ut b]; simp
 · obtain ⟨i, a, _, e, _⟩ := Adb b;rw [e];show (g a).dig.length ≤ _;rw [h]; omega
theorem AgS {tl : List (List Int)} {pre : List RnX} {x : RnX} {l : List Int} (h : tl[pre.length]? = some l) : tl.take (pre ++ [x]).length = tl.take pre.length ++ [l] := by
 rw [Lf, Ni, LG, h]; rfl
theorem Abc (p : PgV) (x : DlV) (A : Option Addr) (cap : Nat) (ts : List IntsV) (fuel : Int) (w : World) (hok : p.ok w) (hx : DlOk w x) (hbl : p.body.length ≤ 999) (hr : Rd w A (Ji ts)) (hot : ∀ x ∈ ts, x.ok w) (hl : ts.length ≤ 1000) :
 Calls Tryz.prog 18 #[.agg p.cells, .agg x.cells, .slice A ts.length cap, .int .i64 fuel] w fun e w' => JudR p x.d (ts.map IntsV.l) fuel w w' e := by
 obtain ⟨PA, pc, d⟩ := x;show Calls Tryz.prog 18 #[.agg p.cells, .agg #[.slice PA d.path.length pc, .int .i64 d.op, .int .i64 d.n], .slice A ts.length cap, .int .i64 fuel] w fun e w' => JudR p d (ts.map IntsV.l) fuel w w' e
 have di := Lv hok;have Hx : Hid (Rd w PA (Qj d.path) ∧ d.path.length ≤ 1000000) := ⟨hx.1, hx.2⟩;have cm := Lv hbl;have Hr := Lv hr;have dj := Lv hot;have Hl := Lv hl;obtain ⟨n, c2⟩ : ∃ n, n = ts.length := ⟨_, rfl⟩;have dh := Lv c2;rw [← c2];clear hok hx hbl hr hot hl c2;refine (callsIn_wide (n := 0)).1 ?_;refine callsIn_of_wp_marks Tryz.func18 rfl trivial ?_;simp only [Tryz.ntmps18, Lm, Le, Lu, Nat.reduceAdd, Nat.reduceSub, Lk, Ll, Ly, LH, Lp, Ln];refine wpIn_wide.2 ?_;go_wp2_with (refine Qm _ _ rfl ?_)
 refine Stop.to ?_;refine Qe rfl 25 _ rfl p.cells rfl ?_;intro G Gw Gh Gr Gb;go_wp2_with (refine Qm _ _ rfl ?_)
 refine Stop.to ?_;refine Qe rfl 50 _ rfl #[.slice PA d.path.length pc, .int .i64 d.op, .int .i64 d.n] rfl ?_;intro D Dw Dh Dr Db;go_wp2_with (first | fail | (refine QE _ rfl ?_))
 refine Stop.to ?_;refine Qi rfl 54 rfl _ _ (Xm _) rfl ?_;intro R Rw Rh Rr Rb;have b1 := (Below.refl w.heap.size w).trans (Gb.mono Gh);have b2 := b1.trans ((Db.mono Dh).mono b1.size);have b3 := b2.trans ((Rb.mono Rh).mono b2.size);have bs : w.heap.size ≤ R := Li b2.size Rh;have br : w.heap.size ≤ D := Li b1.size Dh;have eg : D < R := Lg Dr.lt Rh;have rG := (Gr.below Db (Lg Gr.lt Dh));have aj := rG.below Rb (Lg rG.lt Rh);have rD := Dr.below Rb (Lg Dr.lt Rh);have rR : Row Rw R 54 mt0.cells.toArray := Rr;have Hc := Lv (Acy p A cap ts fuel Rw (di.out.go b3) (by have := cm.out; omega) (Hr.out.go b3) (fun y hy => (dj.out y hy).go b3) Hl.out);rw [← dh.out] at Hc;clear Gr Gb Gh Dr Db Dh Rb Rh rG b1 b2 Rr;go_wp2_with fail
 go_step3
 go_wp2_with (refine wpList_load_row rfl 25 _ rfl G rfl 25 p.cells (0, 0) _ aj Tryz.underlying25 rfl (by kernel_rfl) ?_)
 refine Hc.out.mono ?_;rintro e w1 ⟨v, rfl, cj, b4⟩;replace aj := aj.below b4 aj.lt;replace rD := rD.below b4 rD.lt;replace rR := rR.below b4 rR.lt;have s := QQ cj b3.size;replace b3 := b3.trans (b4.mono b3.size);clear b4 Hc cj;obtain ⟨bl, hbl⟩ : ∃ bl, bl = ZF p (ts.map IntsV.l) fuel := ⟨_, rfl⟩;rw [← hbl] at s;obtain ⟨nb, c1⟩ : ∃ nb, nb = bl.length := ⟨_, rfl⟩;rw [← c1] at s;obtain ⟨BA, bc, rfl⟩ := Zj s;have dc := Lv hbl;have eb := Lv c1;obtain ⟨z, hz⟩ : ∃ z, z = Ze p (ts.map IntsV.l) fuel := ⟨_, rfl⟩;rw [← hz];have Hz := Lv hz;clear hbl c1 hz;go_wp2_with (refine QE _ rfl ?_)
 refine Stop.to ?_;refine Qi rfl 86 rfl _ _ (Aeb _) rfl ?_;intro F Fw Fh Fr Fb;have cF := Fr.cellv (i := 0) (v := .slice none 0 0) rfl;have fF := Fr.free 0;have rF : Row (Fw.setCell ⟨F, 0, none⟩ (.slice BA nb bc)) F 86 #[.slice BA nb bc] := Fr.set 0 _;have o2 : Only F Fw (Fw.setCell ⟨F, 0, none⟩ (.slice BA nb bc)) := Q6 Fw F 0 _;have bH : Below w1.heap.size w1 (Fw.setCell ⟨F, 0, none⟩ (.slice BA nb bc)) := (Fb.mono Fh).trans (o2.below Fh);have ex : w.heap.size ≤ F := Li b3.size Fh;have dm : D < F := Lg rD.lt Fh;replace aj := aj.below bH aj.lt;replace rD := rD.below bH rD.lt;replace rR := rR.below bH rR.lt;replace s := Qy s bH;replace b3 := b3.trans (bH.mono b3.size);clear bH o2 Fr Fb Fh;by_cases h0 : z = 0;rotate_left
 · have eq : (z != 0) = true := by simpa using h0
   have bd : ZW p d (ts.map IntsV.l) fuel = z := by unfold ZW; rw [if_pos (by rw [← Hz.out]; exact h0), ← Hz.out]
   have Hj := Lv bd;have H0 : Hid (¬ z = 0) := h0;clear h0 bd s aj rD rF;go_wp2_with (refine Qp 54 _ _ rfl ?_)
   refine Stop.to ?_;clear cF fF;generalize Fw.setCell ⟨F, 0, none⟩ (.slice BA nb bc) = W2 at *;refine Qk rfl 54 _ _ rfl R mt0.cells.toArray rfl rfl 54 _ rR (by kernel_rfl) rfl (by simp [mt0, MtV.cells, Value.oneCell']) ?_;intro W9 r9 o9;have b9 := Ql b3 o9 bs;have HF : Hid (JudR p d (ts.map IntsV.l) fuel w W9 (.returned (.tuple #[.agg mt0.cells.toArray, .int .i64 z]))) := ⟨mt0, by rw [Hj.out], fun h => absurd (Hj.out.symm.trans h) H0.out, fun _ => rfl, b9⟩;clear o9 rR b3 b9 Hj;go_wp2_with fail
   try rw [Exit.noGoto_ret]
   exact ⟨_, QN Tryz.results18 _ _ R 54 _ (0, 0) _ rfl r9 Tryz.underlying54 rfl (by kernel_rfl), HF.out⟩
 have cr : Hid (Ze p (ts.map IntsV.l) fuel = 0) := Hz.out.symm.trans h0;subst h0;clear Hz;have dp := rD.lt;have Hc := Lv (Y9 p ⟨PA, pc, d⟩ (Fw.setCell ⟨F, 0, none⟩ (.slice BA nb bc)) (di.out.go b3) ⟨Hx.out.1.go b3, Hx.out.2⟩ (by have := cm.out; omega));go_wp2_with (first | (refine wpList_load_row rfl 25 _ rfl G rfl 25 p.cells (0, 0) _ aj Tryz.underlying25 rfl (by kernel_rfl) ?_) | (refine wpList_load_row rfl 50 _ rfl D rfl 50 #[.slice PA d.path.length pc, .int .i64 d.op, .int .i64 d.n] (0, 0) _ rD Tryz.underlying50 rfl (by kernel_rfl) ?_))
 clear cF fF;generalize Fw.setCell ⟨F, 0, none⟩ (.slice BA nb bc) = W2 at *;refine Hc.out.mono ?_;rintro e w3 ⟨m, rfl, hm, cx, b4⟩;replace rD := rD.below b4 rD.lt;replace rR := rR.below b4 rR.lt;replace rF := rF.below b4 rF.lt;replace s := Qy s b4;replace b3 := b3.trans (b4.mono b3.size);clear b4 Hc aj;obtain ⟨z, hz⟩ : ∃ z, z = mutC p d := ⟨_, rfl⟩;rw [← hz] at hm cx ⊢;have bd : ZW p d (ts.map IntsV.l) fuel = z := by unfold ZW; rw [if_neg (by rw [cr.out]; simp), ← hz]
 have Hj := Lv bd;have Hz := Lv hz;have Hm := Lv hm;clear bd hz hm cx;go_wp2_with (refine QE _ rfl ?_)
 refine Stop.to ?_;refine Qi rfl 25 rfl _ _ AiK rfl ?_;intro Q Qw Qh Qr Qb;go_wp2_with (refine Qp 25 _ _ rfl ?_)
 refine Stop.to ?_;refine Qk rfl 25 _ _ rfl Q m.cells rfl rfl 25 _ Qr (by kernel_rfl) rfl (by simp [PgV.cells, Value.oneCell']) ?_;intro W4 rQ o2;have bH : Below w3.heap.size w3 W4 := (Qb.mono Qh).trans (o2.below Qh);have dn : D < Q := Lg rD.lt Qh;replace rD := rD.below bH rD.lt;replace rR := rR.below bH rR.lt;replace rF := rF.below bH rF.lt;replace s := Qy s bH;have b5 := b3.trans (bH.mono b3.size);have BH := Lv bH;clear bH o2 Qr Qb Qh b3;by_cases h0 : z = 0;rotate_left
 · have eq : (z != 0) = true := by simpa using h0
   have H0 : Hid (¬ z = 0) := h0;clear h0 s rD rF rQ BH;go_wp2_with (refine Qp 54 _ _ rfl ?_)
   refine Stop.to ?_;refine Qk rfl 54 _ _ rfl R mt0.cells.toArray rfl rfl 54 _ rR (by kernel_rfl) rfl (by simp [mt0, MtV.cells, Value.oneCell']) ?_;intro W9 r9 o9;have b9 := Ql b5 o9 bs;have HF : Hid (JudR p d (ts.map IntsV.l) fuel w W9 (.returned (.tuple #[.agg mt0.cells.toArray, .int .i64 z]))) := ⟨mt0, by rw [Hj.out], fun h => absurd (Hj.out.symm.trans h) H0.out, fun _ => rfl, b9⟩;clear o9 rR b5 b9 Hj;go_wp2_with fail
   try rw [Exit.noGoto_ret]
   exact ⟨_, QN Tryz.results18 _ _ R 54 _ (0, 0) _ rfl r9 Tryz.underlying54 rfl (by kernel_rfl), HF.out⟩
 subst h0;obtain ⟨cc, ak, cb, be⟩ := Hm.out rfl;have dx : Qj m.V ≠ [] → ∀ ad, m.va = some ad → ¬ ad.block = D := fun _ ad e h => by have := be ad (.inl e); omega
 have dw : m.body.flatMap Nd.cells ≠ [] → ∀ ad, m.ba = some ad → ¬ ad.block = D := fun _ ad e h => by have := be ad (.inr e); omega
 replace ak := ak.go BH.out;have dg := Lv cc;have df := Lv cb;clear Hm BH cc cb be dp;have bj : Row W4 D 50 #[.slice PA d.path.length pc, .int .i64 d.op, .int .i64 d.n] := rD;have c4 : Rd W4 PA (Qj d.path) := Hx.out.1.go b5;have hπ : d.path.length ≤ 1000000 := Hx.out.2;obtain ⟨v5, w5, cg, az, a2, -⟩ := Zp (P := Tryz.prog) 22 3 (.int .i64 0) 1 8 Tryz.underlying22 Jk rfl (by decide) (by decide) (World.ownsRow_nil W4 W4.heap.size 3 1) (Nat.le_refl _) c4 (m := d.path.length) (cap := pc) (by rw [Ju, Nat.mul_one]) (Jl d.path) (fun e => by subst e; rw [AjF c4]; rfl) (by omega);have b6 : Below W4.heap.size W4 w5 := ⟨a2.os, a2.tape, a2.output, a2.size, fun k hk => a2.block k hk (by simp [Value.ownBlock])⟩;rw [LN, Lp] at az;obtain ⟨q, t, rfl, cf, dz, ce, cd⟩ := X9 az;have b0 : IntB w5 q := Uy az rfl;have bk := bj.below b6 bj.lt;have ew := bj.lt;replace rR := rR.below b6 rR.lt;replace rF := rF.below b6 rF.lt;replace rQ := rQ.below b6 rQ.lt;replace s := Qy s b6;replace ak := ak.go b6;replace b5 := b5.trans (b6.mono b5.size);have bx := Lv cg;have c0 := bj.cellv (i := 0) (v := .slice PA d.path.length pc) rfl;clear az a2 cg c4 rD;go_wp2_with (refine AiV _ _ _ _ rfl ?_)
 refine Stop.to ?_;refine Zc rfl _ (QA rfl bx.out) ?_;have ab : Row (w5.setCell ⟨D, 0, none⟩ (.slice q d.path.length t)) D 50 #[.slice q d.path.length t, .int .i64 d.op, .int .i64 d.n] := bk.set 0 _;have o6 := Q6 w5 D 0 (.slice q d.path.length t);have c5 : w5.cell? ⟨D, 0, none⟩ = some (.slice PA d.path.length pc) := bk.cellv (i := 0) rfl;have f5 := bk.free 0;have ag := rR.only o6 (Ne.symm (Nat.ne_of_lt eg));have ae := rF.only o6 (Ne.symm (Nat.ne_of_lt dm));have au := rQ.only o6 (Ne.symm (Nat.ne_of_lt dn));have bi := QB s o6 (QD s bk (by decide));have ci := ak.kx dx dw (KpX.only (X := fun k => k = D) o6 rfl);have b7 := Ql b5 o6 br
 have dr : MtT (w5.setCell ⟨D, 0, none⟩ (.slice q d.path.length t)) ⟨q, t, ⟨d, 0, 0, 0, 0, []⟩⟩ ∧ (∀ ad, q = some ad → ad.block ≠ D) := by
  have cy : ∀ a, q = some a → a.block ≠ D := fun a e => by have := cd a e; omega
  refine ⟨⟨⟨cf.only o6 (fun _ => cy), hπ, fun e => ?_, by simp⟩, fun a e => ?_⟩, cy⟩
  · show d.path = [];have h0 := ce e;exact L0 (by omega)
  · obtain ⟨ef, en⟩ := b0 a e;exact ⟨ef, en.only o6 (cy a e)⟩
 have cl := Lv dr.1;clear rR rF rQ s ak b5 o6 dx dw dr cf dz ce cd b0 b6 bx dm dn bj;obtain ⟨m0, cx⟩ : ∃ m0 : Mt, m0 = ⟨d, 0, -1, 0, 0, []⟩ := ⟨_, rfl⟩;go_wp2_with (first | (refine wpList_load_row rfl 50 _ rfl D rfl 50 #[.slice q d.path.length t, .int .i64 d.op, .int .i64 d.n] (0, 0) _ ab Tryz.underlying50 rfl (by kernel_rfl) ?_) | (refine QE 54 rfl ?_))
 clear c0 c5 f5 bk;generalize w5.setCell ⟨D, 0, none⟩ (.slice q d.path.length t) = w6 at *;refine Stop.to ?_;refine Qi rfl 54 rfl _ _ (Xm _) rfl ?_;intro M Mw Mh Mr Mb;go_wp2_with (refine Qp 54 _ _ rfl ?_)
 refine Stop.to ?_;refine Qk rfl 54 _ _ rfl M (MtV.mk q t ⟨d, 0, -1, 0, 0, []⟩).cells.toArray rfl rfl 54 _ Mr (by kernel_rfl) rfl (by simp [MtV.cells, Value.oneCell']) ?_;intro W7 rM o7;have bM : Below w6.heap.size w6 W7 := (Mb.mono Mh).trans (o7.below Mh);have dq : w.heap.size ≤ M := Li b7.size Mh;have eh : w6.heap.size ≤ M := Mh;have es : (D < M ∧ R < M) ∧ F < M := by have := ab.lt; have := ag.lt; have := ae.lt; omega
 have h6 := b7.size;replace ab := ab.below bM ab.lt;replace ag := ag.below bM ag.lt;replace ae := ae.below bM ae.lt;replace au := au.below bM au.lt;have d1 : ∀ a, q = some a → a.block < M := fun a e => by obtain ⟨cs, hr⟩ := cl.out.2 a e; exact Lg hr.lt Mh
 have ds : JD bl ≠ [] → ∀ ad, BA = some ad → ad.block < M := fun bg ad e => Lg (Xe (Kv bi) bg e) Mh
 have a1 := (Kv bi).go bM;have b8 := b7.trans (bM.mono b7.size);have bq := Lv (And.intro ci b7);clear o7 Mr Mb Mh bi ci b7;have el : ∀ (fn : Fn) (first cap : Array Value) (w : World), (Instr.makeFunc fn first cap).run Tryz.prog w = .ok (.func fn first cap) w := fun _ _ _ _ => rfl
 go_wp2_with (refine QE 116 rfl ?_)
 refine Stop.to ?_;refine Qi rfl 116 rfl _ _ (Aj2 _) rfl ?_;intro N Nw Nh Nr Nb;have cN := Nr.cellv (i := 0) (v := .nilFunc) rfl;have fN := Nr.free 0;have rN : Row (Nw.setCell ⟨N, 0, none⟩ (.func (.func 51) #[] #[.pointer (some ⟨D, 0, none⟩), .pointer (some ⟨M, 0, none⟩)])) N 116 #[.func (.func 51) #[] #[.pointer (some ⟨D, 0, none⟩), .pointer (some ⟨M, 0, none⟩)]] := Nr.set 0 _;have o8 := Q6 Nw N 0 (.func (.func 51) #[] #[.pointer (some ⟨D, 0, none⟩), .pointer (some ⟨M, 0, none⟩)]);have bN : Below W7.heap.size W7 (Nw.setCell ⟨N, 0, none⟩ (.func (.func 51) #[] #[.pointer (some ⟨D, 0, none⟩), .pointer (some ⟨M, 0, none⟩)])) := (Nb.mono Nh).trans (o8.below Nh);have ct := bM.trans (bN.mono bM.size);have ey : M < N := Lg rM.lt Nh;replace ab := ab.below bN ab.lt;replace ag := ag.below bN ag.lt;replace ae := ae.below bN ae.lt;replace au := au.below bN au.lt;replace rM := rM.below bN rM.lt;replace a1 := a1.go bN;replace b8 := b8.trans (bN.mono b8.size);clear o8 Nr Nb Nh bN bM el;go_wp2_with fail
 clear cN fN;generalize Nw.setCell ⟨N, 0, none⟩ (.func (.func 51) #[] #[.pointer (some ⟨D, 0, none⟩), .pointer (some ⟨M, 0, none⟩)]) = w8 at *;go_step3
 go_wp2_with (refine wpList_load_row rfl 25 _ rfl Q rfl 25 m.cells (0, 0) _ au Tryz.underlying25 rfl (by kernel_rfl) ?_)
 refine (Aad m A n cap fuel w8).mono ?_;rintro e w9 ⟨bt, bp, bf, rfl, r1, r2, r3, g1, g2, g3, b9⟩;have sM := rM.lt;replace ab := ab.below b9 ab.lt;replace ag := ag.below b9 ag.lt;replace ae := ae.below b9 ae.lt;replace rM := rM.below b9 rM.lt;replace rN := rN.below b9 rN.lt;replace a1 := a1.go b9;replace b8 := b8.trans (b9.mono b8.size);have cu := ct.trans (b9.mono ct.size);have HT := Lv (cl.out.go cu);obtain ⟨lim, ca⟩ : ∃ lim, lim = w9.heap.size := ⟨_, rfl⟩;rw [dh.out] at r1;have ez : M < lim := by have := rM.lt; omega
 have hC : RunsC m A cap ts fuel (fun k => k = M ∨ lim ≤ k) bt bp bf w9 := RunsC.of (lim := M) (w0 := w6) (fun k hk => by rcases hk with h | h <;> omega) eh bq.out.1 (Hr.out.go bq.out.2) (fun y hy => (dj.out y hy).go bq.out.2) cu r1 r2 r3
  (fun h => by have := r1.lt; omega) (fun h => by have := r2.lt; omega) (fun h => by have := r3.lt; omega)
 have de := Lv (Aac m (by have := df.out; have := cm.out; omega) A cap ts Hl.out (XL cr.out) fuel (fun k => k = M ∨ lim ≤ k) bt bp bf w9 hC);have e6 : w.heap.size ≤ lim := by omega
 have e0 : (D < lim ∧ R < lim) ∧ F < lim ∧ N < lim := by have := ab.lt; have := ag.lt; have := ae.lt; have := rN.lt; omega
 have ah := Lv ca;clear hC r1 r2 r3 g1 g2 g3 b9 ca au bq cl ct cu sM;go_wp2_with fail
 refine (wpIn_wide (n := 0)).1 ?_;obtain ⟨f, hf⟩ : ∃ f, f = rnZ p fuel := ⟨_, rfl⟩;obtain ⟨g, hg⟩ : ∃ g, g = rnZ (KG p d) fuel := ⟨_, rfl⟩;obtain ⟨tl, bh⟩ : ∃ tl, tl = ts.map IntsV.l := ⟨_, rfl⟩;have du : rnZ m fuel = g := by rw [hg]; exact dg.out.rn fuel
 have bb : bl = tl.map f := by rw [dc.out, bh, hf]; unfold ZF; rw [if_pos cr.out]
 have hJ : QW p d (ts.map IntsV.l) fuel = QZ f g d tl := by rw [hf, hg, bh]; rfl
 have dy : nb = tl.length := by rw [eb.out, bb, Lz]
 have cn := Lv du;have HJ := Lv hJ;have d6 := Lv bb;have ec := Lv dy;rw [← bh] at de;have ee := Lv bh;have d7 := Lv ds;have dk := Lv d1;have d4 : Hid ((∃ mm, mm = QZ f g d (tl.take ([] : List RnX).length) ∧ Row w9 M 54 (MtV.mk q t mm).cells.toArray) ∧ Hid ((1 : Int) ∉ Q2 f g (tl.take ([] : List RnX).length)) ∧ KpX (fun k => k = M ∨ lim ≤ k) w9 w9 ∧ Below w.heap.size w w9 ∧ lim ≤ w9.heap.size) := ⟨⟨_, (Ut (by rfl)).symm, rM⟩, by simp [Hid, Q2], KpX.refl _ _, b8, by have := ah.out; omega⟩;have HD := Lv ab;have d3 := Lv ae;have db := Lv ag;have d5 := Lv rN;have d9 := Lv a1;clear hf hg du bb hJ dy bh rM b8 ab ae ag rN a1 ds d1
 refine Yz (gf := 83) (lb := #[.pointer (some ⟨bt, 0, none⟩), .pointer (some ⟨bp, 0, none⟩), .pointer (some ⟨bf, 0, none⟩)]) rfl (enters_of Tryz.func83 (by kernel_rfl) rfl) de.out (fun r h => h.elim)
  (fun h k => h.trans k) (fun V o o' ho hc => ⟨fun i p hx hp => by rw [World.putObj_heap_other (fun e => hx (.inr e))]; exact hp, by simp⟩) (World.grownBy.refl _ _) (fun _ => rfl)
  (fun pre V => (∃ mm, mm = QZ f g d (tl.take pre.length) ∧ Row V M 54 (MtV.mk q t mm).cells.toArray) ∧ Hid ((1 : Int) ∉ Q2 f g (tl.take pre.length)) ∧ KpX (fun k => k = M ∨ lim ≤ k) w9 V ∧ Below w.heap.size w V ∧ lim ≤ V.heap.size)
  (fun c pre V => c = .exit 0 ∧ (∃ mm, mm = QZ f g d tl ∧ Row V M 54 (MtV.mk q t mm).cells.toArray) ∧ KpX (fun k => k = M ∨ lim ≤ k) w9 V ∧ Below w.heap.size w V ∧ lim ≤ V.heap.size) (.inl trivial) ?hI ?hIx d4.out
  (fun pre x a' V => ∃ T, a' = { tmps := #[.agg p.cells, .agg #[.slice PA d.path.length pc, .int .i64 d.op, .int .i64 d.n], .slice A n cap, .int .i64 fuel, .pointer (some ⟨G, 0, none⟩), .pointer (some ⟨D, 0, none⟩), undef, undef, .pointer (some ⟨R, 0, none⟩), .int .i64 0, .pointer (some ⟨F, 0, none⟩), .int .i64 0, .pointer (some ⟨Q, 0, none⟩), .pointer (some ⟨M, 0, none⟩), .pointer (some ⟨N, 0, none⟩), .int .i64 (x.i : Int), .pointer (some ⟨T, 0, none⟩), undef, .tuple #[.slice BA nb bc, .int .i64 0], .agg p.cells, .slice A n cap, .int .i64 fuel, .tuple #[.slice BA nb bc, .int .i64 0], .slice BA nb bc, .int .i64 0, .int .i64 0, .bool false, undef, undef, .tuple #[.agg m.cells, .int .i64 0], .agg p.cells, .agg #[.slice PA d.path.length pc, .int .i64 d.op, .int .i64 d.n], .tuple #[.agg m.cells, .int .i64 0], .agg m.cells, .int .i64 0, .int .i64 0, .bool false, undef, undef, .pointer (some ⟨D, 0, none⟩), .slice PA d.path.length pc, .slice q d.path.length t, .pointer (some ⟨D, 0, none⟩), .agg #[.slice q d.path.length t, .int .i64 d.op, .int .i64 d.n], .agg #[.slice q d.path.length t, .int .i64 d.op, .int .i64 d.n, .int .i64 0, .int .i64 (-1), .int .i64 0, .int .i64 0, .string ⟨#[]⟩], .func (.func 51) #[] #[.pointer (some ⟨D, 0, none⟩), .pointer (some ⟨M, 0, none⟩)], .agg m.cells, .slice A n cap, .int .i64 fuel, .func (.func 83) #[] #[.pointer (some ⟨bt, 0, none⟩), .pointer (some ⟨bp, 0, none⟩), .pointer (some ⟨bf, 0, none⟩)], .int .i64 (x.i : Int), .agg x.r.cells, undef, undef, undef, undef, undef, undef, undef, undef, undef, undef, undef, undef, undef, undef, undef, undef, undef, undef, undef, undef, undef, undef, undef, undef, undef, undef, undef, undef, undef], defers := [] } ∧ Row V T 114 x.r.cells ∧ lim ≤ T ∧ x.r.ok V ∧ x.r.evs.length ≤ 10000 ∧ x.i = pre.length ∧ ∃ l, tl[pre.length]? = some l ∧ x.rn = g l) ?hAx ?assign ?body ?done ?stop
 case hI =>
  rintro pre V V' row ⟨⟨mm, e, h1⟩, h2, h3, h4, h5⟩ hg hr;have ap : ∀ r, row = some r → w9.heap.size ≤ r := fun r e => (hr r e).elim (fun h => h.elim) (fun h => h.1)
  exact ⟨⟨mm, e, h1.abide hg hr⟩, h2, h3.grown hg ap, h4.grown hg h4.size (fun k e => by have := ap k e; have := ah.out; omega), Li h5 hg.size⟩
 case hIx =>
  rintro c pre V V' row ⟨h0, ⟨mm, e, h1⟩, h3, h4, h5⟩ hg hr;have ap : ∀ r, row = some r → w9.heap.size ≤ r := fun r e => (hr r e).elim (fun h => h.elim) (fun h => h.1)
  exact ⟨h0, ⟨mm, e, h1.abide hg hr⟩, h3.grown hg ap, h4.grown hg h4.size (fun k e => by have := ap k e; have := ah.out; omega), Li h5 hg.size⟩
 case hAx =>
  rintro pre x a' _ V V' row ⟨T, h1, h2, h3, h4, h5⟩ hg hr;refine ⟨T, h1, h2.abide hg hr, h3, ⟨h4.kind, h4.value, h4.steps, h4.len, h4.cap, h4.nil, h4.reads.grown hg (fun r e => ?_), h4.evs⟩, h5⟩;rcases hr r e with h | ⟨_, o⟩
  · exact h.elim
  · exact o
 case assign =>
  rintro l3 pre x V K hI hP hK;have HK := Lv hK;have HI := Lv hI;have HP := Lv hP;clear hK hI hP;unfold RnX.enc;rw [show x.r.val = .agg x.r.cells from rfl];gi_wp2_with (refine KZ _ _ _ rfl ?_);refine Stop.to ?_;obtain ⟨T, hD⟩ : ∃ D, D = V.heap.size := ⟨_, rfl⟩;obtain ⟨V1, bv⟩ : ∃ V1, V1 = V.alloc (.cells #[.int .i64 0, .int .i64 0, .int .i64 0, .slice none 0 0] 114) := ⟨_, rfl⟩;have rD : Row V1 T 114 #[.int .i64 0, .int .i64 0, .int .i64 0, .slice none 0 0] := by rw [bv, hD]; exact Row.new _ _ _
  have b1 : Below V.heap.size V V1 := by rw [bv]; exact (Below.refl _ _).alloc (Nat.le_refl _) _
  rw [← bv, ← hD];have br : V.heap.size ≤ T := LM hD.symm;clear bv hD;refine Q5 rfl 114 _ _ rfl T x.r.cells rfl rfl 114 _ rD (by kernel_rfl) rfl (by simp [RunV.cells, Value.oneCell']) ?_;have c7 := rD.setRow x.r.cells;have o2 := Zv V1 T x.r.cells;have b2 : Below V.heap.size V (V1.setRow T x.r.cells) := Ql b1 o2 br;generalize V1.setRow T x.r.cells = V2 at c7 o2 b2 ⊢;obtain ⟨⟨mm, e, h1⟩, h2, h3, h4, h5⟩ := HI.out;have eo := b2.size;obtain ⟨q1, q2, q3, q4⟩ := HP.out;have a3 := HP.out.rn;rw [cn.out] at a3;have HF := Lv (And.intro ((KpX.of_below b2).keeps (b := w9.heap.size) (X := fun _ => False) (fun _ h => h.elim)) (And.intro (KpX.of_below (X := fun i => (i = M ∨ lim ≤ i) ∨ i = w9.heap.size + 1) b2) (And.intro (show (∃ mm, mm = QZ f g d (tl.take pre.length) ∧ Row V2 M 54 (MtV.mk q t mm).cells.toArray) ∧ Hid ((1 : Int) ∉ Q2 f g (tl.take pre.length)) ∧ KpX (fun k => k = M ∨ lim ≤ k) w9 V2 ∧ Below w.heap.size w V2 ∧ lim ≤ V2.heap.size from ⟨⟨mm, e, h1.below b2 h1.lt⟩, h2, h3.trans (KpX.of_below b2), h4.trans (b2.mono (by have := h4.size; omega)), by omega⟩) (And.intro c7 (And.intro (St.go (S := fun W => x.r.ok W) q3 b2) (And.intro q4 (And.intro q1 a3)))))));have bu : lim ≤ T := by omega
  clear rD c7 b1 o2 b2 br h1 h2 h3 h4 h5 eo HI q1 q2 q3 q4 a3 e HP;gi_wp2_with fail
  exact HK.out _ _ HF.out.1 HF.out.2.1 HF.out.2.2.1 ⟨T, rfl, HF.out.2.2.2.1, bu, HF.out.2.2.2.2⟩
 case body =>
  rintro l3 pre x a' V ej _ ⟨⟨mm, ac, hM⟩, h1, hk, hb, hs⟩ ⟨T, rfl, hT, bu, hok, dt, hi, l, hl, hx⟩ dv;rw [hi];obtain ⟨b, cw⟩ : ∃ b, b = f l := ⟨_, rfl⟩;have bw : bl[pre.length]? = some b := by rw [d6.out, L6, hl, cw]; rfl
  have em : pre.length < nb := by rw [ec.out]; exact (Ld.1 hl).1
  have bg : JD bl ≠ [] := Ah3 bw;have ay : Rd V BA (JD bl) := hk.rd d9.out (fun bg ad e h => by have := d7.out bg ad e; omega);obtain ⟨ad, ei, _⟩ := YW (c := fun r : Rn => r.cells.toList) (sz := 2) (fun _ => rfl) (by decide) ay bw;have c8 := hk.row HD.out (by omega);have c9 := hk.row d3.out (by omega);have da := hk.row d5.out (by omega);rw [ei] at ay c9;have ea := Lv bw;have co := Lv hl;have cq := Lv hx;have al := Lv ac;have H1 := Lv h1;have d8 := Lv cw;have e4 : (pre.length : Int) < (nb : Int) := by omega
  have e3 : (0 : Int) ≤ (pre.length : Int) := by omega
  obtain ⟨S, an⟩ : ∃ S, S = (fun W => ((Row W F 86 #[.slice (some ad) nb bc] ∧ Rd W (some ad) (JD bl)) ∧ (Row W T 114 x.r.cells ∧ x.r.ok W)) ∧ Below V.heap.size V W) := ⟨_, rfl⟩;have er : St S := by rw [an]; infer_instance
  have SF : Hid (∀ W, S W → Row W F 86 #[.slice (some ad) nb bc]) := by show ∀ W, _; rw [an]; exact fun W h => h.1.1.1
  have SB : Hid (∀ W, S W → Rd W (some ad) (JD bl)) := by show ∀ W, _; rw [an]; exact fun W h => h.1.1.2
  have ST : Hid (∀ W, S W → Row W T 114 x.r.cells) := by show ∀ W, _; rw [an]; exact fun W h => h.1.2.1
  have SO : Hid (∀ W, S W → x.r.ok W) := by show ∀ W, _; rw [an]; exact fun W h => h.1.2.2
  have SL : Hid (∀ W, S W → Below V.heap.size V W) := by show ∀ W, _; rw [an]; exact fun W h => h.2
  have hS : S V := by rw [an]; exact ⟨⟨⟨c9, ay⟩, hT, hok⟩, Below.refl _ _⟩
  have dd := Lv dt
  have Hc : Hid (∀ W, S W → ∀ (j : Nat) u, (Xn b.kind b.value)[j]? = some u → W.cell? ((ad.add (pre.length * 2)).add j) = some u) := fun W h => by
   obtain ⟨eu, e2, h2⟩ := YW (c := fun r : Rn => r.cells.toList) (sz := 2) (fun _ => rfl) (by decide) (SB.out W h) ea.out;injection e2 with e2; rw [e2]; exact h2
  have a9 : Hid (∀ W, Calls Tryz.prog 54 #[.agg (Xn b.kind b.value).toArray, .agg (Xn x.r.kind x.r.value).toArray] W fun e w' => e = .returned (.int .i64 (Q9 b x.rn)) ∧ Below W.heap.size W w') := fun W => Abu b x.rn W
  clear an bw hl hx ac h1 cw bg ay c9 hok dt hT em;gi_wp2_with fail
  refine AbZ S (by kernel_rfl) (by kernel_rfl) (by kernel_rfl) (St.drew hS) ?_;clear hS;(refine Qg rfl ?_ (fun W hW => ?_) ?_; rotate_left; (focus (have c := (SF.out W hW).cellv (i := 0) (v := .slice (some ad) nb bc) rfl; go_simp; exact rfl)); simp only [Act.put, Qa, Qb, Qc])
  iterate 2 (refine Qg rfl ?_ (fun W hW => ?_) ?_; rotate_left; (focus (go_simp; exact rfl)); simp only [Act.put, Qa, Qb, Qc])
  (refine Zl rfl 52 _ rfl ((ad.add (pre.length * 2))) rfl (Xn b.kind b.value) _ (fun W hW => Hc.out W hW) Tryz.underlying52 rfl (by kernel_rfl) ?_; simp only [Act.put, Qa, Qb, Qc]);(refine Qg rfl ?_ (fun W hW => ?_) ?_; rotate_left; (focus (go_simp; exact rfl)); simp only [Act.put, Qa, Qb, Qc]);(refine Zl rfl 52 _ rfl (⟨T, 0, none⟩) rfl (Xn x.r.kind x.r.value) _ (fun W hW => KW (ST.out W hW)) Tryz.underlying52 rfl (by kernel_rfl) ?_; simp only [Act.put, Qa, Qb, Qc]);(refine QG rfl 54 _ (fun W => by (go_simp; try rfl)) (.int .i64 (Q9 b x.rn)) (fun W hW => a9.out W) ?_; simp only [Act.put, Qa, Qb, Qc])
  (refine Qg rfl ?_ (fun W hW => ?_) ?_; rotate_left; (focus (go_simp; exact rfl)); simp only [Act.put, Qa, Qb, Qc]);refine QS fun W hW => ?_
  have bW := SL.out W hW;have af := hM.below bW hM.lt;have a6 := c8.below bW c8.lt;have bo := da.below bW da.lt;have a7 := ST.out W hW;have a5 := SO.out W hW;have ai := hb.trans (bW.mono hb.size);have ao := hk.trans (KpX.of_below bW);have a4 : lim ≤ W.heap.size := Li hs bW.size;have aq : KeepsFrom w9.heap.size V W := (KpX.of_below bW).keeps (X := fun _ => False) (fun _ h => h.elim);have ar : KpX (fun i => (i = M ∨ lim ≤ i) ∨ i = w9.heap.size + 1) V W := KpX.of_below bW;have d0 := AgS (x := x) co.out;have ch : (tl.take pre.length).length = pre.length := by rw [L7]; have := (Ld.1 co.out).1; omega
  have d2 : Q9 b x.rn = Q9 (f l) (g l) := by rw [d8.out, cq.out]
  have a3 : x.rn = ⟨x.r.kind, x.r.value, Yi x.r⟩ := rfl;have a0 := Lv d0;have bz := Lv ch;have am := Lv d2;have et := Lv a3;have cN := bo.cellv (i := 0) (v := .func (.func 51) #[] #[.pointer (some ⟨D, 0, none⟩), .pointer (some ⟨M, 0, none⟩)]) rfl;have c3 := af.cellv (i := 3) (v := .int .i64 mm.verdict) rfl;clear d0 ch d2 a3 hW SF SB ST SO SL er Hc a9 hM hk hb hs c8 da bW dv ej;rcases Vz b x.rn with h0 | h0 | h0
  · have aa := Y3 (f := f) (g := g) (d := d) (pre := tl.take pre.length) (x := l) H1.out (by rw [← am.out]; omega) (fun h => by rw [← am.out] at h; omega);rw [← a0.out] at aa;have av := Lv (al.out.trans aa.symm)
    have a8 : Hid ((1 : Int) ∉ Q2 f g (tl.take (pre ++ [x]).length)) := by
     show ¬ _;rw [a0.out, Km, L5];rintro (h | h)
     · exact H1.out h
     · simp only [Q2, LQ, Np, L3] at h;rw [← am.out, h0] at h;omega
    have HF : Hid (KeepsFrom w9.heap.size V W ∧ KpX (fun i => (i = M ∨ lim ≤ i) ∨ i = w9.heap.size + 1) V W ∧ (∃ mm, mm = QZ f g d (tl.take (pre ++ [x]).length) ∧ Row W M 54 (MtV.mk q t mm).cells.toArray) ∧ Hid ((1 : Int) ∉ Q2 f g (tl.take (pre ++ [x]).length)) ∧ KpX (fun k => k = M ∨ lim ≤ k) w9 W ∧ Below w.heap.size w W ∧ lim ≤ W.heap.size) :=
     ⟨aq, ar, ⟨mm, av.out, af⟩, a8.out, ao, ai, a4⟩
    rw [h0];clear aa h0 aq ar ao ai af a6 bo a7 a5 cN a4;gi_wp2_with fail
    exact HF.out
  · rw [h0]
    have ed : Hid (tl.take pre.length ++ l :: tl.drop (pre.length + 1) = tl) := by
     obtain ⟨ek, he⟩ := Ld.1 co.out;show _ = _;rw [← he, ← LO ek, LK]
    have aa := Y7 (f := f) (g := g) (d := d) (pre := tl.take pre.length) (rest := tl.drop (pre.length + 1)) (x := l) H1.out (by rw [← am.out]; exact h0);rw [ed.out, bz.out, ← cq.out] at aa;have av := Lv aa;clear aa h0 c3;gi_wp2_with (refine Q7 rfl 114 _ rfl T rfl 114 x.r.cells (0, 0) _ a7 Tryz.underlying114 rfl (by kernel_rfl) ?_);refine ⟨trivial, rfl, (callsIn_wide.2 (AdB ⟨q, t, d⟩ 1 (pre.length : Int) x.r D M _ W a6 af rfl a5 dd.out)).mono ?_⟩;rintro e W2 ⟨rfl, bm, V1, bV, oV⟩;have bn := af.below bV af.lt
    have HF : Hid (KeepsFrom w9.heap.size V W2 ∧ KpX (fun i => (i = M ∨ lim ≤ i) ∨ i = w9.heap.size + 1) V W2 ∧ (∃ mm, mm = QZ f g d tl ∧ Row W2 M 54 (MtV.mk q t mm).cells.toArray) ∧ KpX (fun k => k = M ∨ lim ≤ k) w9 W2 ∧ Below w.heap.size w W2 ∧ lim ≤ W2.heap.size) :=
     ⟨aq.trans (((KpX.of_below bV).keeps (b := w9.heap.size) (X := fun _ => False) (fun _ h => h.elim)).trans (KeepsFrom.of_only bn oV)), ar.trans ((KpX.of_below bV).trans (KpX.only oV (.inl (.inl rfl)))),
      ⟨_, av.out.symm, bm⟩, ao.trans ((KpX.of_below bV).trans (KpX.only oV (.inl rfl))), Ql (ai.trans (bV.mono ai.size)) oV dq, by have e1 := bV.size; have e2 := oV.size; omega⟩
    clear bn bm bV oV aq ar ao ai af a6 bo a7 a5 cN a4;gi_wp2_with fail
    exact ⟨HF.out.1, HF.out.2.1, rfl, HF.out.2.2⟩
  · by_cases hv : mm.verdict = 0
    · have h2 : (2 : Int) ∉ Q2 f g (tl.take pre.length) := by
       have h9 := hv;rw [al.out, X5] at h9;exact (best_v0.1 h9).2
      have aa := EE (f := f) (g := g) (d := d) (pre := tl.take pre.length) (x := l) H1.out h2 (by rw [← am.out]; exact h0);rw [bz.out, ← cq.out, ← a0.out] at aa;have av := Lv aa
      have a8 : Hid ((1 : Int) ∉ Q2 f g (tl.take (pre ++ [x]).length)) := by
       show ¬ _;rw [a0.out, Km, L5];rintro (h | h)
       · exact H1.out h
       · simp only [Q2, LQ, Np, L3] at h;rw [← am.out, h0] at h;omega
      rw [hv] at c3;rw [h0];clear aa h0 h2 hv;gi_wp2_with (refine Q7 rfl 114 _ rfl T rfl 114 x.r.cells (0, 0) _ a7 Tryz.underlying114 rfl (by kernel_rfl) ?_);refine ⟨trivial, rfl, (callsIn_wide.2 (AdB ⟨q, t, d⟩ 2 (pre.length : Int) x.r D M _ W a6 af rfl a5 dd.out)).mono ?_⟩;rintro e W2 ⟨rfl, bm, V1, bV, oV⟩;have bn := af.below bV af.lt
      have HF : Hid (KeepsFrom w9.heap.size V W2 ∧ KpX (fun i => (i = M ∨ lim ≤ i) ∨ i = w9.heap.size + 1) V W2 ∧ (∃ mm, mm = QZ f g d (tl.take (pre ++ [x]).length) ∧ Row W2 M 54 (MtV.mk q t mm).cells.toArray) ∧ Hid ((1 : Int) ∉ Q2 f g (tl.take (pre ++ [x]).length)) ∧ KpX (fun k => k = M ∨ lim ≤ k) w9 W2 ∧ Below w.heap.size w W2 ∧ lim ≤ W2.heap.size) :=
       ⟨aq.trans (((KpX.of_below bV).keeps (b := w9.heap.size) (X := fun _ => False) (fun _ h => h.elim)).trans (KeepsFrom.of_only bn oV)), ar.trans ((KpX.of_below bV).trans (KpX.only oV (.inl (.inl rfl)))),
        ⟨_, av.out.symm, bm⟩, a8.out, ao.trans ((KpX.of_below bV).trans (KpX.only oV (.inl rfl))), Ql (ai.trans (bV.mono ai.size)) oV dq, by have e1 := bV.size; have e2 := oV.size; omega⟩
      clear bn bm bV oV aq ar ao ai af a6 bo a7 a5 cN a4 c3;gi_wp2_with fail
      exact HF.out
    · have e5 : (mm.verdict == 0) = false := by simpa using hv
      have aa := Y3 (f := f) (g := g) (d := d) (pre := tl.take pre.length) (x := l) H1.out (by rw [← am.out]; omega) (fun _ => by rw [← al.out]; exact hv);rw [← a0.out] at aa;have av := Lv (al.out.trans aa.symm)
      have a8 : Hid ((1 : Int) ∉ Q2 f g (tl.take (pre ++ [x]).length)) := by
       show ¬ _;rw [a0.out, Km, L5];rintro (h | h)
       · exact H1.out h
       · simp only [Q2, LQ, Np, L3] at h;rw [← am.out, h0] at h;omega
      have HF : Hid (KeepsFrom w9.heap.size V W ∧ KpX (fun i => (i = M ∨ lim ≤ i) ∨ i = w9.heap.size + 1) V W ∧ (∃ mm, mm = QZ f g d (tl.take (pre ++ [x]).length) ∧ Row W M 54 (MtV.mk q t mm).cells.toArray) ∧ Hid ((1 : Int) ∉ Q2 f g (tl.take (pre ++ [x]).length)) ∧ KpX (fun k => k = M ∨ lim ≤ k) w9 W ∧ Below w.heap.size w W ∧ lim ≤ W.heap.size) :=
       ⟨aq, ar, ⟨mm, av.out, af⟩, a8.out, ao, ai, a4⟩
      rw [h0];clear aa h0 aq ar ao ai af a6 bo a7 a5 cN a4;gi_wp2_with fail
      exact HF.out
 case stop =>
  rintro T c pre V hD _ ⟨rfl, ⟨mm, ac, h1⟩, h3, h4, h5⟩ hK;have cv : T ≠ R := by have := ah.out; omega
  have ax := h3.row db.out (by omega);have tT : MtT V (MtV.mk q t mm) := Adu (by rw [ac]; exact KO) (by rw [ac]; exact YP d tl (fun a => by rw [← cn.out]; exact VR _ _ _)) (HT.out.same fun a cs e c6 => h3.row c6 (fun h => by have h8 := dk.out a e; omega));have bu : w9.heap.size ≤ T := hD;have al := Lv (ac.trans HJ.out.symm);have HK := Lv hK;have H4 := Lv h4;have cp := Lv tT;clear ac hK h3 h4 h5 tT;gi_wp2;go_wp2_with (first | (refine wpList_load_row rfl 54 _ rfl M rfl 54 (MtV.mk q t mm).cells.toArray (0, 0) _ h1 Tryz.underlying54 rfl (by kernel_rfl) ?_) | (refine Qp 54 _ _ rfl ?_))
  refine Stop.to ?_;refine Qk rfl 54 _ _ rfl R (MtV.mk q t mm).cells.toArray rfl rfl 54 _ ax (by kernel_rfl) rfl (by simp [MtV.cells, Value.oneCell']) ?_;intro W9 r9 o9;have aw : W9.heap[T]? = some (.deferred (some [])) := (o9.block T cv).trans HK.out;have hr : ∀ r, some T = some r → False ∨ (True ∧ ∃ o : Obj, W9.heap[r]? = some o ∧ o.isCells = false) := fun r e => by cases e; exact .inr ⟨trivial, _, aw, rfl⟩
  have hg := grownBy_putObj' W9 T (.deferred none);have rX := r9.abide hg hr;have b9 := Ql H4.out o9 bs;have bX := b9.grown hg b9.size (fun k e => by cases e; have := ah.out; omega);have tX := (Adt cp.out ax (by decide) o9).abide hg hr;have HF : Hid (JudR p d (ts.map IntsV.l) fuel w (W9.putObj T (.deferred none)) (.returned (.tuple #[.agg (MtV.mk q t mm).cells.toArray, .int .i64 0]))) := ⟨_, by rw [Hj.out], fun _ => ⟨al.out, tX⟩, fun h => absurd Hj.out h, bX⟩;have ck := Lv aw;clear hr hg r9 b9 bX tX o9 aw ax h1;go_wp2_with fail
  rw [Exit.noGoto_ret];refine ⟨by simp, .inl ⟨_, _, rfl, run_takeDeferred ck.out, ?_⟩⟩;exact ⟨_, QN Tryz.results18 _ _ R 54 _ (0, 0) _ rfl rX Tryz.underlying54 rfl (by kernel_rfl), HF.out⟩
 case done =>
  rintro T ys V hD ep ⟨⟨mm, ac, h1⟩, _, h3, h4, h5⟩ hK;rw [ep, LA (by rw [ee.out, Lz]; exact Nat.le_refl _)] at ac;have cv : T ≠ R := by have := ah.out; omega
  have ax := h3.row db.out (by omega);have tT : MtT V (MtV.mk q t mm) := Adu (by rw [ac]; exact KO) (by rw [ac]; exact YP d tl (fun a => by rw [← cn.out]; exact VR _ _ _)) (HT.out.same fun a cs e c6 => h3.row c6 (fun h => by have h8 := dk.out a e; omega));have bu : w9.heap.size ≤ T := hD;have al := Lv (ac.trans HJ.out.symm);have HK := Lv hK;have H4 := Lv h4;have cp := Lv tT;clear ac hK h3 h4 h5 tT;gi_wp2;go_wp2_with (first | (refine wpList_load_row rfl 54 _ rfl M rfl 54 (MtV.mk q t mm).cells.toArray (0, 0) _ h1 Tryz.underlying54 rfl (by kernel_rfl) ?_) | (refine Qp 54 _ _ rfl ?_))
  refine Stop.to ?_;refine Qk rfl 54 _ _ rfl R (MtV.mk q t mm).cells.toArray rfl rfl 54 _ ax (by kernel_rfl) rfl (by simp [MtV.cells, Value.oneCell']) ?_;intro W9 r9 o9;have aw : W9.heap[T]? = some (.deferred (some [])) := (o9.block T cv).trans HK.out;have hr : ∀ r, some T = some r → False ∨ (True ∧ ∃ o : Obj, W9.heap[r]? = some o ∧ o.isCells = false) := fun r e => by cases e; exact .inr ⟨trivial, _, aw, rfl⟩
  have hg := grownBy_putObj' W9 T (.deferred none);have rX := r9.abide hg hr;have b9 := Ql H4.out o9 bs;have bX := b9.grown hg b9.size (fun k e => by cases e; have := ah.out; omega);have tX := (Adt cp.out ax (by decide) o9).abide hg hr;have HF : Hid (JudR p d (ts.map IntsV.l) fuel w (W9.putObj T (.deferred none)) (.returned (.tuple #[.agg (MtV.mk q t mm).cells.toArray, .int .i64 0]))) := ⟨_, by rw [Hj.out], fun _ => ⟨al.out, tX⟩, fun h => absurd Hj.out h, bX⟩;have ck := Lv aw;clear hr hg r9 b9 bX tX o9 aw ax h1;go_wp2_with fail
  rw [Exit.noGoto_ret];refine ⟨by simp, .inl ⟨_, _, rfl, run_takeDeferred ck.out, ?_⟩⟩;exact ⟨_, QN Tryz.results18 _ _ R 54 _ (0, 0) _ rfl rX Tryz.underlying54 rfl (by kernel_rfl), HF.out⟩
end Go.Proofs.YtkoikjnlpifbjaaGreat
