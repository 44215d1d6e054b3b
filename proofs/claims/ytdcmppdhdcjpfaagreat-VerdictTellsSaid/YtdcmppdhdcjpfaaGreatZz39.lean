/- Lemmas for VerdictTellsP. -/
import Derived.Test.YtdcmppdhdcjpfaaGreatZz1
import Derived.Test.YtdcmppdhdcjpfaaGreatZz37
import Derived.Test.YtdcmppdhdcjpfaaGreatZz38
import Derived.Test.YtdcmppdhdcjpfaaGreatZz12
set_option linter.unusedVariables false
set_option linter.unusedSimpArgs false
set_option maxRecDepth 100000
set_option maxHeartbeats 16000000
namespace Go.Proofs.YtdcmppdhdcjpfaaGreat
open Go.RowKit Go.Deep
attribute [local go_sem] Oper.semAt_some
def mt0 : MtV := ⟨none, 0, ⟨⟨[], 0, 0⟩, 0, 0, 0, 0, []⟩⟩
structure JudR (p : PgV) (d : Dl) (ts : List (List Int)) (fuel : Int) (w w' : World) (e : Ending) : Prop where
 ex : ∃ y : MtV, e = .returned (.tuple #[.agg y.cells.toArray, .int .i64 (Z8 p d ts fuel)]) ∧ (Z8 p d ts fuel = 0 → y.m = Yg p d ts fuel ∧ MtT w' y) ∧ (Z8 p d ts fuel ≠ 0 → y = mt0) ∧ Below w.heap.size w w'
theorem KD (w : World) : (zeroValue 54).run Tryz.prog w = .ok (.agg mt0.cells.toArray) w := by kernel_rfl
theorem AhM {w : World} : (zeroValue 25).run Tryz.prog w = .ok (.agg #[.int .i64 0, .slice none 0 0, .slice none 0 0]) w := by kernel_rfl
theorem AiR (w : World) : (zeroValue 139).run Tryz.prog w = .ok .nilFunc w := by kernel_rfl
theorem AeY {ops : Array Oper} {rest : List Oper} {o : Oper} {a : Act} {w : World} {Q : Exit → Act → World → Prop} (s x : Operand) (t u : TypeId) (_ : o.op = .call { callee := .builtin .append, args := #[s, x], argTypes := #[t, u] }) (h : Stop (wpList Tryz.prog ops Q (o :: rest) a w) id) : wpList Tryz.prog ops Q (o :: rest) a w := h.out
theorem Aiv {W : World} {l : List Int} (h : Rd W none (Qi l)) : l = [] := by
 cases l with
 | nil => rfl
 | cons x l => obtain ⟨_, e, _⟩ := h 0 (.int .i64 x) rfl; cases e
theorem Ahd : ∀ {l : List Rn} {k : Nat} {b : Rn}, l[k]? = some b → Z3 l ≠ []
 | [], _, _, h => by simp at h
 | y :: ys, _, _, _ => by simp [Z3, Rn.cells, X0]
theorem Ac6 {W : World} {A : Option Addr} {cap : Nat} {d : Dl} {mm : Mt} (hd : mm.d = d) (hg : mm.digest.length ≤ 1000000) (h : MtT W ⟨A, cap, ⟨d, 0, 0, 0, 0, []⟩⟩) : MtT W ⟨A, cap, mm⟩ := by
 subst hd;exact ⟨⟨h.1.rd, h.1.len, h.1.nil, hg⟩, h.2⟩
theorem Ac5 {W W' : World} {x : MtV} {g : Nat} {t : TypeId} {cs : Array Value} (h : MtT W x) (hr : Row W g t cs) (ht : t ≠ 3) (o : Only g W W') : MtT W' x := h.same fun a cs' _ k => k.only o (fun e => by
 have h1 : W.heap[g]? = some (.cells cs' 3 (0, 0)) := by rw [← e]; exact k
 rw [show W.heap[g]? = some (.cells cs t (0, 0)) from hr] at h1
 injection h1 with h1; injection h1 with _ h1; exact ht h1)
theorem Afr (p : PgV) (fuel : Int) (a : List Int) : (rnZ p fuel a).dig.length = 32 := Acz _
theorem Aa0 {f g : List Int → Rn} (d : Dl) (ts : List (List Int)) (h : ∀ a, (g a).dig.length = 32) : (Zr f g d ts).digest.length ≤ 1000000 := by
 by_cases b : (Zr f g d ts).verdict = 0
 · rw [VA] at b; rw [Ud b]; simp
 · obtain ⟨i, a, _, e, _⟩ := AgY b;rw [e];show (g a).dig.length ≤ _;rw [h]; omega
theorem Agn {tl : List (List Int)} {pre : List RnX} {x : RnX} {l : List Int} (h : tl[pre.length]? = some l) : tl.take (pre ++ [x]).length = tl.take pre.length ++ [l] := by
 rw [Le, LV, L6, h]; rfl
theorem KR (p : PgV) (x : DlV) (A : Option Addr) (cap : Nat) (ts : List IntsV) (fuel : Int) (w : World) (hok : p.ok w) (hx : DlOk w x) (hbl : p.body.length ≤ 999) (hr : Rd w A (Ka ts)) (hot : ∀ x ∈ ts, x.ok w) (hl : ts.length ≤ 1000) :
 Calls Tryz.prog 29 #[.agg p.cells, .agg x.cells, .slice A ts.length cap, .int .i64 fuel] w fun e w' => JudR p x.d (ts.map IntsV.l) fuel w w' e := by
 obtain ⟨PA, pc, d⟩ := x;show Calls Tryz.prog 29 #[.agg p.cells, .agg #[.slice PA d.path.length pc, .int .i64 d.op, .int .i64 d.n], .slice A ts.length cap, .int .i64 fuel] w fun e w' => JudR p d (ts.map IntsV.l) fuel w w' e
 have dh := Lh hok;have Hx : Hid (Rd w PA (Qi d.path) ∧ d.path.length ≤ 1000000) := ⟨hx.1, hx.2⟩;have cm := Lh hbl;have Hr := Lh hr;have di := Lh hot;have Hl := Lh hl;obtain ⟨n, c1⟩ : ∃ n, n = ts.length := ⟨_, rfl⟩;have dg := Lh c1;rw [← c1];clear hok hx hbl hr hot hl c1;refine (callsIn_wide (n := 0)).1 ?_;refine callsIn_of_wp_marks Tryz.func29 rfl trivial ?_;simp only [Tryz.ntmps29, Lk, Lc, Lr, Nat.reduceAdd, Nat.reduceSub, Ll, Lm, Lu, L7, Lp, Ln];refine wpIn_wide.2 ?_;go_wp2_with (refine Qn _ _ rfl ?_)
 refine Stop.to ?_;refine Qe rfl 25 _ rfl p.cells rfl ?_;intro G Gw Gh Gr Gb;go_wp2_with (refine Qn _ _ rfl ?_)
 refine Stop.to ?_;refine Qe rfl 35 _ rfl #[.slice PA d.path.length pc, .int .i64 d.op, .int .i64 d.n] rfl ?_;intro D Dw Dh Dr Db;go_wp2_with (first | fail | (refine QT _ rfl ?_))
 refine Stop.to ?_;refine Qm rfl 54 rfl _ _ (KD _) rfl ?_;intro R Rw Rh Rr Rb;have b1 := (Below.refl w.heap.size w).trans (Gb.mono Gh);have b2 := b1.trans ((Db.mono Dh).mono b1.size);have b3 := b2.trans ((Rb.mono Rh).mono b2.size);have bs : w.heap.size ≤ R := Li b2.size Rh;have br : w.heap.size ≤ D := Li b1.size Dh;have ef : D < R := Ld Dr.lt Rh;have rG := (Gr.below Db (Ld Gr.lt Dh));have aj := rG.below Rb (Ld rG.lt Rh);have rD := Dr.below Rb (Ld Dr.lt Rh);have rR : Row Rw R 54 mt0.cells.toArray := Rr;have Hc := Lh (VP p A cap ts fuel Rw (dh.out.go b3) (by have := cm.out; omega) (Hr.out.go b3) (fun y hy => (di.out y hy).go b3) Hl.out);rw [← dg.out] at Hc;clear Gr Gb Gh Dr Db Dh Rb Rh rG b1 b2 Rr;go_wp2_with fail
 go_step3
 go_wp2_with (refine wpList_load_row rfl 25 _ rfl G rfl 25 p.cells (0, 0) _ aj Tryz.underlying25 rfl (by kernel_rfl) ?_)
 refine Hc.out.mono ?_;rintro e w1 ⟨v, rfl, cj, b4⟩;replace aj := aj.below b4 aj.lt;replace rD := rD.below b4 rD.lt;replace rR := rR.below b4 rR.lt;have s := QK cj b3.size;replace b3 := b3.trans (b4.mono b3.size);clear b4 Hc cj;obtain ⟨bl, hbl⟩ : ∃ bl, bl = KI p (ts.map IntsV.l) fuel := ⟨_, rfl⟩;rw [← hbl] at s;obtain ⟨nb, cz⟩ : ∃ nb, nb = bl.length := ⟨_, rfl⟩;rw [← cz] at s;obtain ⟨BA, bc, rfl⟩ := Zl s;have db := Lh hbl;have ea := Lh cz;obtain ⟨z, hz⟩ : ∃ z, z = JE p (ts.map IntsV.l) fuel := ⟨_, rfl⟩;rw [← hz];have Hz := Lh hz;clear hbl cz hz;go_wp2_with (refine QT _ rfl ?_)
 refine Stop.to ?_;refine Qm rfl 48 rfl _ _ (AdQ _) rfl ?_;intro F Fw Fh Fr Fb;have cF := Fr.cellv (i := 0) (v := .slice none 0 0) rfl;have fF := Fr.free 0;have rF : Row (Fw.setCell ⟨F, 0, none⟩ (.slice BA nb bc)) F 48 #[.slice BA nb bc] := Fr.set 0 _;have o2 : Only F Fw (Fw.setCell ⟨F, 0, none⟩ (.slice BA nb bc)) := Zk Fw F 0 _;have bH : Below w1.heap.size w1 (Fw.setCell ⟨F, 0, none⟩ (.slice BA nb bc)) := (Fb.mono Fh).trans (o2.below Fh);have ew : w.heap.size ≤ F := Li b3.size Fh;have dk : D < F := Ld rD.lt Fh;replace aj := aj.below bH aj.lt;replace rD := rD.below bH rD.lt;replace rR := rR.below bH rR.lt;replace s := Qz s bH;replace b3 := b3.trans (bH.mono b3.size);clear bH o2 Fr Fb Fh;by_cases h0 : z = 0;rotate_left
 · have ep : (z != 0) = true := by simpa using h0
   have bd : Z8 p d (ts.map IntsV.l) fuel = z := by unfold Z8; rw [if_pos (by rw [← Hz.out]; exact h0), ← Hz.out]
   have Hj := Lh bd;have H0 : Hid (¬ z = 0) := h0;clear h0 bd s aj rD rF;go_wp2_with (refine Qv 54 _ _ rfl ?_)
   refine Stop.to ?_;clear cF fF;generalize Fw.setCell ⟨F, 0, none⟩ (.slice BA nb bc) = W2 at *;refine Ql rfl 54 _ _ rfl R mt0.cells.toArray rfl rfl 54 _ rR (by kernel_rfl) rfl (by simp [mt0, MtV.cells, Value.oneCell']) ?_;intro W9 r9 o9;have b9 := Qp b3 o9 bs;have HF : Hid (JudR p d (ts.map IntsV.l) fuel w W9 (.returned (.tuple #[.agg mt0.cells.toArray, .int .i64 z]))) := ⟨mt0, by rw [Hj.out], fun h => absurd (Hj.out.symm.trans h) H0.out, fun _ => rfl, b9⟩;clear o9 rR b3 b9 Hj;go_wp2_with fail
   try rw [Exit.noGoto_ret]
   exact ⟨_, QN Tryz.results29 _ _ R 54 _ (0, 0) _ rfl r9 Tryz.underlying54 rfl (by kernel_rfl), HF.out⟩
 have cr : Hid (JE p (ts.map IntsV.l) fuel = 0) := Hz.out.symm.trans h0;subst h0;clear Hz;have dn := rD.lt;have Hc := Lh (Aew p ⟨PA, pc, d⟩ (Fw.setCell ⟨F, 0, none⟩ (.slice BA nb bc)) (dh.out.go b3) ⟨Hx.out.1.go b3, Hx.out.2⟩ (by have := cm.out; omega));go_wp2_with (first | (refine wpList_load_row rfl 25 _ rfl G rfl 25 p.cells (0, 0) _ aj Tryz.underlying25 rfl (by kernel_rfl) ?_) | (refine wpList_load_row rfl 35 _ rfl D rfl 35 #[.slice PA d.path.length pc, .int .i64 d.op, .int .i64 d.n] (0, 0) _ rD Tryz.underlying35 rfl (by kernel_rfl) ?_))
 clear cF fF;generalize Fw.setCell ⟨F, 0, none⟩ (.slice BA nb bc) = W2 at *;refine Hc.out.mono ?_;rintro e w3 ⟨m, rfl, hm, cx, b4⟩;replace rD := rD.below b4 rD.lt;replace rR := rR.below b4 rR.lt;replace rF := rF.below b4 rF.lt;replace s := Qz s b4;replace b3 := b3.trans (b4.mono b3.size);clear b4 Hc aj;obtain ⟨z, hz⟩ : ∃ z, z = Vq p d := ⟨_, rfl⟩;rw [← hz] at hm cx ⊢;have bd : Z8 p d (ts.map IntsV.l) fuel = z := by unfold Z8; rw [if_neg (by rw [cr.out]; simp), ← hz]
 have Hj := Lh bd;have Hz := Lh hz;have Hm := Lh hm;clear bd hz hm cx;go_wp2_with (refine QT _ rfl ?_)
 refine Stop.to ?_;refine Qm rfl 25 rfl _ _ AhM rfl ?_;intro Q Qw Qh Qr Qb;go_wp2_with (refine Qv 25 _ _ rfl ?_)
 refine Stop.to ?_;refine Ql rfl 25 _ _ rfl Q m.cells rfl rfl 25 _ Qr (by kernel_rfl) rfl (by simp [PgV.cells, Value.oneCell']) ?_;intro W4 rQ o2;have bH : Below w3.heap.size w3 W4 := (Qb.mono Qh).trans (o2.below Qh);have dm : D < Q := Ld rD.lt Qh;replace rD := rD.below bH rD.lt;replace rR := rR.below bH rR.lt;replace rF := rF.below bH rF.lt;replace s := Qz s bH;have b5 := b3.trans (bH.mono b3.size);have BH := Lh bH;clear bH o2 Qr Qb Qh b3;by_cases h0 : z = 0;rotate_left
 · have ep : (z != 0) = true := by simpa using h0
   have H0 : Hid (¬ z = 0) := h0;clear h0 s rD rF rQ BH;go_wp2_with (refine Qv 54 _ _ rfl ?_)
   refine Stop.to ?_;refine Ql rfl 54 _ _ rfl R mt0.cells.toArray rfl rfl 54 _ rR (by kernel_rfl) rfl (by simp [mt0, MtV.cells, Value.oneCell']) ?_;intro W9 r9 o9;have b9 := Qp b5 o9 bs;have HF : Hid (JudR p d (ts.map IntsV.l) fuel w W9 (.returned (.tuple #[.agg mt0.cells.toArray, .int .i64 z]))) := ⟨mt0, by rw [Hj.out], fun h => absurd (Hj.out.symm.trans h) H0.out, fun _ => rfl, b9⟩;clear o9 rR b5 b9 Hj;go_wp2_with fail
   try rw [Exit.noGoto_ret]
   exact ⟨_, QN Tryz.results29 _ _ R 54 _ (0, 0) _ rfl r9 Tryz.underlying54 rfl (by kernel_rfl), HF.out⟩
 subst h0;obtain ⟨cc, ak, cb, be⟩ := Hm.out rfl;have dw : Qi m.V ≠ [] → ∀ ad, m.va = some ad → ¬ ad.block = D := fun _ ad e h => by have := be ad (.inl e); omega
 have dv : m.body.flatMap Nd.cells ≠ [] → ∀ ad, m.ba = some ad → ¬ ad.block = D := fun _ ad e h => by have := be ad (.inr e); omega
 replace ak := ak.go BH.out;have df := Lh cc;have de := Lh cb;clear Hm BH cc cb be dn;have bj : Row W4 D 35 #[.slice PA d.path.length pc, .int .i64 d.op, .int .i64 d.n] := rD;have c2 : Rd W4 PA (Qi d.path) := Hx.out.1.go b5;have hπ : d.path.length ≤ 1000000 := Hx.out.2;obtain ⟨v5, w5, cg, az, a2, -⟩ := ZW (P := Tryz.prog) 22 3 (.int .i64 0) 1 8 Tryz.underlying22 Z7 rfl (by decide) (by decide) (World.ownsRow_nil W4 W4.heap.size 3 1) (Nat.le_refl _) c2 (m := d.path.length) (cap := pc) (by rw [Kz, Nat.mul_one]) (Jt d.path) (fun e => by subst e; rw [Aiv c2]; rfl) (by omega);have b6 : Below W4.heap.size W4 w5 := ⟨a2.os, a2.tape, a2.output, a2.size, fun k hk => a2.block k hk (by simp [Value.ownBlock])⟩;rw [LI, Lp] at az;obtain ⟨q, t, rfl, cf, dy, ce, cd⟩ := Xp az;have b0 : IntB w5 q := EL az rfl;have bk := bj.below b6 bj.lt;have eu := bj.lt;replace rR := rR.below b6 rR.lt;replace rF := rF.below b6 rF.lt;replace rQ := rQ.below b6 rQ.lt;replace s := Qz s b6;replace ak := ak.go b6;replace b5 := b5.trans (b6.mono b5.size);have bx := Lh cg;have c0 := bj.cellv (i := 0) (v := .slice PA d.path.length pc) rfl;clear az a2 cg c2 rD;go_wp2_with (refine AeY _ _ _ _ rfl ?_)
 refine Stop.to ?_;refine Q9 rfl _ (QV rfl bx.out) ?_;have ab : Row (w5.setCell ⟨D, 0, none⟩ (.slice q d.path.length t)) D 35 #[.slice q d.path.length t, .int .i64 d.op, .int .i64 d.n] := bk.set 0 _;have o6 := Zk w5 D 0 (.slice q d.path.length t);have c5 : w5.cell? ⟨D, 0, none⟩ = some (.slice PA d.path.length pc) := bk.cellv (i := 0) rfl;have f5 := bk.free 0;have ag := rR.only o6 (Ne.symm (Nat.ne_of_lt ef));have ae := rF.only o6 (Ne.symm (Nat.ne_of_lt dk));have au := rQ.only o6 (Ne.symm (Nat.ne_of_lt dm));have bi := QA s o6 (QC s bk (by decide));have ci := ak.kx dw dv (KpX.only (X := fun k => k = D) o6 rfl);have b7 := Qp b5 o6 br
 have dq : MtT (w5.setCell ⟨D, 0, none⟩ (.slice q d.path.length t)) ⟨q, t, ⟨d, 0, 0, 0, 0, []⟩⟩ ∧ (∀ ad, q = some ad → ad.block ≠ D) := by
  have cy : ∀ a, q = some a → a.block ≠ D := fun a e => by have := cd a e; omega
  refine ⟨⟨⟨cf.only o6 (fun _ => cy), hπ, fun e => ?_, by simp⟩, fun a e => ?_⟩, cy⟩
  · show d.path = [];have h0 := ce e;exact Lt (by omega)
  · obtain ⟨ee, em⟩ := b0 a e;exact ⟨ee, em.only o6 (cy a e)⟩
 have cl := Lh dq.1;clear rR rF rQ s ak b5 o6 dw dv dq cf dy ce cd b0 b6 bx dk dm bj;obtain ⟨m0, cx⟩ : ∃ m0 : Mt, m0 = ⟨d, 0, -1, 0, 0, []⟩ := ⟨_, rfl⟩;go_wp2_with (first | (refine wpList_load_row rfl 35 _ rfl D rfl 35 #[.slice q d.path.length t, .int .i64 d.op, .int .i64 d.n] (0, 0) _ ab Tryz.underlying35 rfl (by kernel_rfl) ?_) | (refine QT 54 rfl ?_))
 clear c0 c5 f5 bk;generalize w5.setCell ⟨D, 0, none⟩ (.slice q d.path.length t) = w6 at *;refine Stop.to ?_;refine Qm rfl 54 rfl _ _ (KD _) rfl ?_;intro M Mw Mh Mr Mb;go_wp2_with (refine Qv 54 _ _ rfl ?_)
 refine Stop.to ?_;refine Ql rfl 54 _ _ rfl M (MtV.mk q t ⟨d, 0, -1, 0, 0, []⟩).cells.toArray rfl rfl 54 _ Mr (by kernel_rfl) rfl (by simp [MtV.cells, Value.oneCell']) ?_;intro W7 rM o7;have bM : Below w6.heap.size w6 W7 := (Mb.mono Mh).trans (o7.below Mh);have dp : w.heap.size ≤ M := Li b7.size Mh;have eg : w6.heap.size ≤ M := Mh;have er : (D < M ∧ R < M) ∧ F < M := by have := ab.lt; have := ag.lt; have := ae.lt; omega
 have h6 := b7.size;replace ab := ab.below bM ab.lt;replace ag := ag.below bM ag.lt;replace ae := ae.below bM ae.lt;replace au := au.below bM au.lt;have d0 : ∀ a, q = some a → a.block < M := fun a e => by obtain ⟨cs, hr⟩ := cl.out.2 a e; exact Ld hr.lt Mh
 have dr : Z3 bl ≠ [] → ∀ ad, BA = some ad → ad.block < M := fun bg ad e => Ld (XO (Xq bi) bg e) Mh
 have a1 := (Xq bi).go bM;have b8 := b7.trans (bM.mono b7.size);have bq := Lh (And.intro ci b7);clear o7 Mr Mb Mh bi ci b7;have ek : ∀ (fn : Fn) (first cap : Array Value) (w : World), (Instr.makeFunc fn first cap).run Tryz.prog w = .ok (.func fn first cap) w := fun _ _ _ _ => rfl
 go_wp2_with (refine QT 139 rfl ?_)
 refine Stop.to ?_;refine Qm rfl 139 rfl _ _ (AiR _) rfl ?_;intro N Nw Nh Nr Nb;have cN := Nr.cellv (i := 0) (v := .nilFunc) rfl;have fN := Nr.free 0;have rN : Row (Nw.setCell ⟨N, 0, none⟩ (.func (.func 73) #[] #[.pointer (some ⟨D, 0, none⟩), .pointer (some ⟨M, 0, none⟩)])) N 139 #[.func (.func 73) #[] #[.pointer (some ⟨D, 0, none⟩), .pointer (some ⟨M, 0, none⟩)]] := Nr.set 0 _;have o8 := Zk Nw N 0 (.func (.func 73) #[] #[.pointer (some ⟨D, 0, none⟩), .pointer (some ⟨M, 0, none⟩)]);have bN : Below W7.heap.size W7 (Nw.setCell ⟨N, 0, none⟩ (.func (.func 73) #[] #[.pointer (some ⟨D, 0, none⟩), .pointer (some ⟨M, 0, none⟩)])) := (Nb.mono Nh).trans (o8.below Nh);have ct := bM.trans (bN.mono bM.size);have ex : M < N := Ld rM.lt Nh;replace ab := ab.below bN ab.lt;replace ag := ag.below bN ag.lt;replace ae := ae.below bN ae.lt;replace au := au.below bN au.lt;replace rM := rM.below bN rM.lt;replace a1 := a1.go bN;replace b8 := b8.trans (bN.mono b8.size);clear o8 Nr Nb Nh bN bM ek;go_wp2_with fail
 clear cN fN;generalize Nw.setCell ⟨N, 0, none⟩ (.func (.func 73) #[] #[.pointer (some ⟨D, 0, none⟩), .pointer (some ⟨M, 0, none⟩)]) = w8 at *;go_step3
 go_wp2_with (refine wpList_load_row rfl 25 _ rfl Q rfl 25 m.cells (0, 0) _ au Tryz.underlying25 rfl (by kernel_rfl) ?_)
 refine (Aad m A n cap fuel w8).mono ?_;rintro e w9 ⟨bt, bp, bf, rfl, r1, r2, r3, g1, g2, g3, b9⟩;have sM := rM.lt;replace ab := ab.below b9 ab.lt;replace ag := ag.below b9 ag.lt;replace ae := ae.below b9 ae.lt;replace rM := rM.below b9 rM.lt;replace rN := rN.below b9 rN.lt;replace a1 := a1.go b9;replace b8 := b8.trans (b9.mono b8.size);have cu := ct.trans (b9.mono ct.size);have HT := Lh (cl.out.go cu);obtain ⟨lim, ca⟩ : ∃ lim, lim = w9.heap.size := ⟨_, rfl⟩;rw [dg.out] at r1;have ey : M < lim := by have := rM.lt; omega
 have hC : RunsC m A cap ts fuel (fun k => k = M ∨ lim ≤ k) bt bp bf w9 := RunsC.of (lim := M) (w0 := w6) (fun k hk => by rcases hk with h | h <;> omega) eg bq.out.1 (Hr.out.go bq.out.2) (fun y hy => (di.out y hy).go bq.out.2) cu r1 r2 r3
  (fun h => by have := r1.lt; omega) (fun h => by have := r2.lt; omega) (fun h => by have := r3.lt; omega)
 have dd := Lh (Aac m (by have := de.out; have := cm.out; omega) A cap ts Hl.out (UI cr.out) fuel (fun k => k = M ∨ lim ≤ k) bt bp bf w9 hC);have e5 : w.heap.size ≤ lim := by omega
 have ez : (D < lim ∧ R < lim) ∧ F < lim ∧ N < lim := by have := ab.lt; have := ag.lt; have := ae.lt; have := rN.lt; omega
 have ah := Lh ca;clear hC r1 r2 r3 g1 g2 g3 b9 ca au bq cl ct cu sM;go_wp2_with fail
 refine (wpIn_wide (n := 0)).1 ?_;obtain ⟨f, hf⟩ : ∃ f, f = rnZ p fuel := ⟨_, rfl⟩;obtain ⟨g, hg⟩ : ∃ g, g = rnZ (Yk p d) fuel := ⟨_, rfl⟩;obtain ⟨tl, bh⟩ : ∃ tl, tl = ts.map IntsV.l := ⟨_, rfl⟩;have dt : rnZ m fuel = g := by rw [hg]; exact df.out.rn fuel
 have bb : bl = tl.map f := by rw [db.out, bh, hf]; unfold KI; rw [if_pos cr.out]
 have hJ : Yg p d (ts.map IntsV.l) fuel = Zr f g d tl := by rw [hf, hg, bh]; rfl
 have dx : nb = tl.length := by rw [ea.out, bb, L3]
 have cn := Lh dt;have HJ := Lh hJ;have d5 := Lh bb;have eb := Lh dx;rw [← bh] at dd;have ed := Lh bh;have d6 := Lh dr;have dj := Lh d0;have d3 : Hid ((∃ mm, mm = Zr f g d (tl.take ([] : List RnX).length) ∧ Row w9 M 54 (MtV.mk q t mm).cells.toArray) ∧ Hid ((1 : Int) ∉ Q8 f g (tl.take ([] : List RnX).length)) ∧ KpX (fun k => k = M ∨ lim ≤ k) w9 w9 ∧ Below w.heap.size w w9 ∧ lim ≤ w9.heap.size) := ⟨⟨_, (Ud (by rfl)).symm, rM⟩, by simp [Hid, Q8], KpX.refl _ _, b8, by have := ah.out; omega⟩;have HD := Lh ab;have d2 := Lh ae;have da := Lh ag;have d4 := Lh rN;have d8 := Lh a1;clear hf hg dt bb hJ dx bh rM b8 ab ae ag rN a1 dr d0
 refine Yo (gf := 136) (lb := #[.pointer (some ⟨bt, 0, none⟩), .pointer (some ⟨bp, 0, none⟩), .pointer (some ⟨bf, 0, none⟩)]) rfl (enters_of Tryz.func136 (by kernel_rfl) rfl) dd.out (fun r h => h.elim)
  (fun h k => h.trans k) (fun V o o' ho hc => ⟨fun i p hx hp => by rw [World.putObj_heap_other (fun e => hx (.inr e))]; exact hp, by simp⟩) (World.grownBy.refl _ _) (fun _ => rfl)
  (fun pre V => (∃ mm, mm = Zr f g d (tl.take pre.length) ∧ Row V M 54 (MtV.mk q t mm).cells.toArray) ∧ Hid ((1 : Int) ∉ Q8 f g (tl.take pre.length)) ∧ KpX (fun k => k = M ∨ lim ≤ k) w9 V ∧ Below w.heap.size w V ∧ lim ≤ V.heap.size)
  (fun c pre V => c = .exit 0 ∧ (∃ mm, mm = Zr f g d tl ∧ Row V M 54 (MtV.mk q t mm).cells.toArray) ∧ KpX (fun k => k = M ∨ lim ≤ k) w9 V ∧ Below w.heap.size w V ∧ lim ≤ V.heap.size) (.inl trivial) ?hI ?hIx d3.out
  (fun pre x a' V => ∃ T, a' = { tmps := #[.agg p.cells, .agg #[.slice PA d.path.length pc, .int .i64 d.op, .int .i64 d.n], .slice A n cap, .int .i64 fuel, .pointer (some ⟨G, 0, none⟩), .pointer (some ⟨D, 0, none⟩), undef, undef, .pointer (some ⟨R, 0, none⟩), .int .i64 0, .pointer (some ⟨F, 0, none⟩), .int .i64 0, .pointer (some ⟨Q, 0, none⟩), .pointer (some ⟨M, 0, none⟩), .pointer (some ⟨N, 0, none⟩), .int .i64 (x.i : Int), .pointer (some ⟨T, 0, none⟩), undef, .tuple #[.slice BA nb bc, .int .i64 0], .agg p.cells, .slice A n cap, .int .i64 fuel, .tuple #[.slice BA nb bc, .int .i64 0], .slice BA nb bc, .int .i64 0, .int .i64 0, .bool false, undef, undef, .tuple #[.agg m.cells, .int .i64 0], .agg p.cells, .agg #[.slice PA d.path.length pc, .int .i64 d.op, .int .i64 d.n], .tuple #[.agg m.cells, .int .i64 0], .agg m.cells, .int .i64 0, .int .i64 0, .bool false, undef, undef, .pointer (some ⟨D, 0, none⟩), .slice PA d.path.length pc, .slice q d.path.length t, .pointer (some ⟨D, 0, none⟩), .agg #[.slice q d.path.length t, .int .i64 d.op, .int .i64 d.n], .agg #[.slice q d.path.length t, .int .i64 d.op, .int .i64 d.n, .int .i64 0, .int .i64 (-1), .int .i64 0, .int .i64 0, .string ⟨#[]⟩], .func (.func 73) #[] #[.pointer (some ⟨D, 0, none⟩), .pointer (some ⟨M, 0, none⟩)], .agg m.cells, .slice A n cap, .int .i64 fuel, .func (.func 136) #[] #[.pointer (some ⟨bt, 0, none⟩), .pointer (some ⟨bp, 0, none⟩), .pointer (some ⟨bf, 0, none⟩)], .int .i64 (x.i : Int), .agg x.r.cells, undef, undef, undef, undef, undef, undef, undef, undef, undef, undef, undef, undef, undef, undef, undef, undef, undef, undef, undef, undef, undef, undef, undef, undef, undef, undef, undef, undef, undef], defers := [] } ∧ Row V T 40 x.r.cells ∧ lim ≤ T ∧ x.r.ok V ∧ x.r.evs.length ≤ 10000 ∧ x.i = pre.length ∧ ∃ l, tl[pre.length]? = some l ∧ x.rn = g l) ?hAx ?assign ?body ?done ?stop
 case hI =>
  rintro pre V V' row ⟨⟨mm, e, h1⟩, h2, h3, h4, h5⟩ hg hr;have ap : ∀ r, row = some r → w9.heap.size ≤ r := fun r e => (hr r e).elim (fun h => h.elim) (fun h => h.1)
  exact ⟨⟨mm, e, h1.abide hg hr⟩, h2, h3.grown hg ap, h4.grown hg h4.size (fun k e => by have := ap k e; have := ah.out; omega), Li h5 hg.size⟩
 case hIx =>
  rintro c pre V V' row ⟨h0, ⟨mm, e, h1⟩, h3, h4, h5⟩ hg hr;have ap : ∀ r, row = some r → w9.heap.size ≤ r := fun r e => (hr r e).elim (fun h => h.elim) (fun h => h.1)
  exact ⟨h0, ⟨mm, e, h1.abide hg hr⟩, h3.grown hg ap, h4.grown hg h4.size (fun k e => by have := ap k e; have := ah.out; omega), Li h5 hg.size⟩
 case hAx =>
  rintro pre x a' _ V V' row ⟨T, h1, h2, h3, h4, h5⟩ hg hr;refine ⟨T, h1, h2.abide hg hr, h3, ⟨h4.kind, h4.value, h4.steps, h4.len, h4.cap, h4.nil, h4.reads.grown hg (fun r e => ?_), h4.evs⟩, h5⟩;rcases hr r e with h | ⟨_, o⟩
  · exact h.elim
  · exact o
 case assign =>
  rintro l3 pre x V K hI hP hK;have HK := Lh hK;have HI := Lh hI;have HP := Lh hP;clear hK hI hP;unfold RnX.enc;rw [show x.r.val = .agg x.r.cells from rfl];gi_wp2_with (refine K0 _ _ _ rfl ?_);refine Stop.to ?_;obtain ⟨T, hD⟩ : ∃ D, D = V.heap.size := ⟨_, rfl⟩;obtain ⟨V1, bv⟩ : ∃ V1, V1 = V.alloc (.cells #[.int .i64 0, .int .i64 0, .int .i64 0, .slice none 0 0] 40) := ⟨_, rfl⟩;have rD : Row V1 T 40 #[.int .i64 0, .int .i64 0, .int .i64 0, .slice none 0 0] := by rw [bv, hD]; exact Row.new _ _ _
  have b1 : Below V.heap.size V V1 := by rw [bv]; exact (Below.refl _ _).alloc (Nat.le_refl _) _
  rw [← bv, ← hD];have br : V.heap.size ≤ T := LG hD.symm;clear bv hD;refine Q3 rfl 40 _ _ rfl T x.r.cells rfl rfl 40 _ rD (by kernel_rfl) rfl (by simp [RunV.cells, Value.oneCell']) ?_;have c6 := rD.setRow x.r.cells;have o2 := Zu V1 T x.r.cells;have b2 : Below V.heap.size V (V1.setRow T x.r.cells) := Qp b1 o2 br;generalize V1.setRow T x.r.cells = V2 at c6 o2 b2 ⊢;obtain ⟨⟨mm, e, h1⟩, h2, h3, h4, h5⟩ := HI.out;have en := b2.size;obtain ⟨q1, q2, q3, q4⟩ := HP.out;have a3 := HP.out.rn;rw [cn.out] at a3;have HF := Lh (And.intro ((KpX.of_below b2).keeps (b := w9.heap.size) (X := fun _ => False) (fun _ h => h.elim)) (And.intro (KpX.of_below (X := fun i => (i = M ∨ lim ≤ i) ∨ i = w9.heap.size + 1) b2) (And.intro (show (∃ mm, mm = Zr f g d (tl.take pre.length) ∧ Row V2 M 54 (MtV.mk q t mm).cells.toArray) ∧ Hid ((1 : Int) ∉ Q8 f g (tl.take pre.length)) ∧ KpX (fun k => k = M ∨ lim ≤ k) w9 V2 ∧ Below w.heap.size w V2 ∧ lim ≤ V2.heap.size from ⟨⟨mm, e, h1.below b2 h1.lt⟩, h2, h3.trans (KpX.of_below b2), h4.trans (b2.mono (by have := h4.size; omega)), by omega⟩) (And.intro c6 (And.intro (St.go (S := fun W => x.r.ok W) q3 b2) (And.intro q4 (And.intro q1 a3)))))));have bu : lim ≤ T := by omega
  clear rD c6 b1 o2 b2 br h1 h2 h3 h4 h5 en HI q1 q2 q3 q4 a3 e HP;gi_wp2_with fail
  exact HK.out _ _ HF.out.1 HF.out.2.1 HF.out.2.2.1 ⟨T, rfl, HF.out.2.2.2.1, bu, HF.out.2.2.2.2⟩
 case body =>
  rintro l3 pre x a' V ei _ ⟨⟨mm, ac, hM⟩, h1, hk, hb, hs⟩ ⟨T, rfl, hT, bu, hok, ds, hi, l, hl, hx⟩ du;rw [hi];obtain ⟨b, cw⟩ : ∃ b, b = f l := ⟨_, rfl⟩;have bw : bl[pre.length]? = some b := by rw [d5.out, LA, hl, cw]; rfl
  have el : pre.length < nb := by rw [eb.out]; exact (Lb.1 hl).1
  have bg : Z3 bl ≠ [] := Ahd bw;have ay : Rd V BA (Z3 bl) := hk.rd d8.out (fun bg ad e h => by have := d6.out bg ad e; omega);obtain ⟨ad, eh, _⟩ := Vb (c := fun r : Rn => r.cells.toList) (sz := 2) (fun _ => rfl) (by decide) ay bw;have c7 := hk.row HD.out (by omega);have c8 := hk.row d2.out (by omega);have c9 := hk.row d4.out (by omega);rw [eh] at ay c8;have d9 := Lh bw;have co := Lh hl;have cq := Lh hx;have al := Lh ac;have H1 := Lh h1;have d7 := Lh cw;have e3 : (pre.length : Int) < (nb : Int) := by omega
  have e0 : (0 : Int) ≤ (pre.length : Int) := by omega
  obtain ⟨S, an⟩ : ∃ S, S = (fun W => ((Row W F 48 #[.slice (some ad) nb bc] ∧ Rd W (some ad) (Z3 bl)) ∧ (Row W T 40 x.r.cells ∧ x.r.ok W)) ∧ Below V.heap.size V W) := ⟨_, rfl⟩;have eq : St S := by rw [an]; infer_instance
  have SF : Hid (∀ W, S W → Row W F 48 #[.slice (some ad) nb bc]) := by show ∀ W, _; rw [an]; exact fun W h => h.1.1.1
  have SB : Hid (∀ W, S W → Rd W (some ad) (Z3 bl)) := by show ∀ W, _; rw [an]; exact fun W h => h.1.1.2
  have ST : Hid (∀ W, S W → Row W T 40 x.r.cells) := by show ∀ W, _; rw [an]; exact fun W h => h.1.2.1
  have SO : Hid (∀ W, S W → x.r.ok W) := by show ∀ W, _; rw [an]; exact fun W h => h.1.2.2
  have SL : Hid (∀ W, S W → Below V.heap.size V W) := by show ∀ W, _; rw [an]; exact fun W h => h.2
  have hS : S V := by rw [an]; exact ⟨⟨⟨c8, ay⟩, hT, hok⟩, Below.refl _ _⟩
  have dc := Lh ds
  have Hc : Hid (∀ W, S W → ∀ (j : Nat) u, (X0 b.kind b.value)[j]? = some u → W.cell? ((ad.add (pre.length * 2)).add j) = some u) := fun W h => by
   obtain ⟨et, e2, h2⟩ := Vb (c := fun r : Rn => r.cells.toList) (sz := 2) (fun _ => rfl) (by decide) (SB.out W h) d9.out;injection e2 with e2; rw [e2]; exact h2
  have a9 : Hid (∀ W, Calls Tryz.prog 27 #[.agg (X0 b.kind b.value).toArray, .agg (X0 x.r.kind x.r.value).toArray] W fun e w' => e = .returned (.int .i64 (QZ b x.rn)) ∧ Below W.heap.size W w') := fun W => U5 b x.rn W
  clear an bw hl hx ac h1 cw bg ay c8 hok ds hT el;gi_wp2_with fail
  refine AbT S (by kernel_rfl) (by kernel_rfl) (by kernel_rfl) (St.drew hS) ?_;clear hS;(refine Qf rfl ?_ (fun W hW => ?_) ?_; rotate_left; (focus (have c := (SF.out W hW).cellv (i := 0) (v := .slice (some ad) nb bc) rfl; go_simp; exact rfl)); simp only [Act.put, Qa, Qb, Qc])
  iterate 2 (refine Qf rfl ?_ (fun W hW => ?_) ?_; rotate_left; (focus (go_simp; exact rfl)); simp only [Act.put, Qa, Qb, Qc])
  (refine ZJ rfl 37 _ rfl ((ad.add (pre.length * 2))) rfl (X0 b.kind b.value) _ (fun W hW => Hc.out W hW) Tryz.underlying37 rfl (by kernel_rfl) ?_; simp only [Act.put, Qa, Qb, Qc]);(refine Qf rfl ?_ (fun W hW => ?_) ?_; rotate_left; (focus (go_simp; exact rfl)); simp only [Act.put, Qa, Qb, Qc]);(refine ZJ rfl 37 _ rfl (⟨T, 0, none⟩) rfl (X0 x.r.kind x.r.value) _ (fun W hW => YC (ST.out W hW)) Tryz.underlying37 rfl (by kernel_rfl) ?_; simp only [Act.put, Qa, Qb, Qc]);(refine QB rfl 27 _ (fun W => by (go_simp; try rfl)) (.int .i64 (QZ b x.rn)) (fun W hW => a9.out W) ?_; simp only [Act.put, Qa, Qb, Qc])
  (refine Qf rfl ?_ (fun W hW => ?_) ?_; rotate_left; (focus (go_simp; exact rfl)); simp only [Act.put, Qa, Qb, Qc]);refine QG fun W hW => ?_
  have bW := SL.out W hW;have af := hM.below bW hM.lt;have a6 := c7.below bW c7.lt;have bo := c9.below bW c9.lt;have a7 := ST.out W hW;have a5 := SO.out W hW;have ai := hb.trans (bW.mono hb.size);have ao := hk.trans (KpX.of_below bW);have a4 : lim ≤ W.heap.size := Li hs bW.size;have aq : KeepsFrom w9.heap.size V W := (KpX.of_below bW).keeps (X := fun _ => False) (fun _ h => h.elim);have ar : KpX (fun i => (i = M ∨ lim ≤ i) ∨ i = w9.heap.size + 1) V W := KpX.of_below bW;have dz := Agn (x := x) co.out;have ch : (tl.take pre.length).length = pre.length := by rw [L4]; have := (Lb.1 co.out).1; omega
  have d1 : QZ b x.rn = QZ (f l) (g l) := by rw [d7.out, cq.out]
  have a3 : x.rn = ⟨x.r.kind, x.r.value, Acy x.r⟩ := rfl;have a0 := Lh dz;have bz := Lh ch;have am := Lh d1;have es := Lh a3;have cN := bo.cellv (i := 0) (v := .func (.func 73) #[] #[.pointer (some ⟨D, 0, none⟩), .pointer (some ⟨M, 0, none⟩)]) rfl;have c3 := af.cellv (i := 3) (v := .int .i64 mm.verdict) rfl;clear dz ch d1 a3 hW SF SB ST SO SL eq Hc a9 hM hk hb hs c7 c9 bW du ei;rcases Adw b x.rn with h0 | h0 | h0
  · have aa := Ev (f := f) (g := g) (d := d) (pre := tl.take pre.length) (x := l) H1.out (by rw [← am.out]; omega) (fun h => by rw [← am.out] at h; omega);rw [← a0.out] at aa;have av := Lh (al.out.trans aa.symm)
    have a8 : Hid ((1 : Int) ∉ Q8 f g (tl.take (pre ++ [x]).length)) := by
     show ¬ _;rw [a0.out, KX, Lz];rintro (h | h)
     · exact H1.out h
     · simp only [Q8, LF, Nc, Lo] at h;rw [← am.out, h0] at h;omega
    have HF : Hid (KeepsFrom w9.heap.size V W ∧ KpX (fun i => (i = M ∨ lim ≤ i) ∨ i = w9.heap.size + 1) V W ∧ (∃ mm, mm = Zr f g d (tl.take (pre ++ [x]).length) ∧ Row W M 54 (MtV.mk q t mm).cells.toArray) ∧ Hid ((1 : Int) ∉ Q8 f g (tl.take (pre ++ [x]).length)) ∧ KpX (fun k => k = M ∨ lim ≤ k) w9 W ∧ Below w.heap.size w W ∧ lim ≤ W.heap.size) :=
     ⟨aq, ar, ⟨mm, av.out, af⟩, a8.out, ao, ai, a4⟩
    rw [h0];clear aa h0 aq ar ao ai af a6 bo a7 a5 cN a4;gi_wp2_with fail
    exact HF.out
  · rw [h0]
    have ec : Hid (tl.take pre.length ++ l :: tl.drop (pre.length + 1) = tl) := by
     obtain ⟨ej, he⟩ := Lb.1 co.out;show _ = _;rw [← he, ← LH ej, LD]
    have aa := YO (f := f) (g := g) (d := d) (pre := tl.take pre.length) (rest := tl.drop (pre.length + 1)) (x := l) H1.out (by rw [← am.out]; exact h0);rw [ec.out, bz.out, ← cq.out] at aa;have av := Lh aa;clear aa h0 c3;gi_wp2_with (refine Zb rfl 40 _ rfl T rfl 40 x.r.cells (0, 0) _ a7 Tryz.underlying40 rfl (by kernel_rfl) ?_);refine ⟨trivial, rfl, (callsIn_wide.2 (Ac9 ⟨q, t, d⟩ 1 (pre.length : Int) x.r D M _ W a6 af rfl a5 dc.out)).mono ?_⟩;rintro e W2 ⟨rfl, bm, V1, bV, oV⟩;have bn := af.below bV af.lt
    have HF : Hid (KeepsFrom w9.heap.size V W2 ∧ KpX (fun i => (i = M ∨ lim ≤ i) ∨ i = w9.heap.size + 1) V W2 ∧ (∃ mm, mm = Zr f g d tl ∧ Row W2 M 54 (MtV.mk q t mm).cells.toArray) ∧ KpX (fun k => k = M ∨ lim ≤ k) w9 W2 ∧ Below w.heap.size w W2 ∧ lim ≤ W2.heap.size) :=
     ⟨aq.trans (((KpX.of_below bV).keeps (b := w9.heap.size) (X := fun _ => False) (fun _ h => h.elim)).trans (KeepsFrom.of_only bn oV)), ar.trans ((KpX.of_below bV).trans (KpX.only oV (.inl (.inl rfl)))),
      ⟨_, av.out.symm, bm⟩, ao.trans ((KpX.of_below bV).trans (KpX.only oV (.inl rfl))), Qp (ai.trans (bV.mono ai.size)) oV dp, by have e1 := bV.size; have e2 := oV.size; omega⟩
    clear bn bm bV oV aq ar ao ai af a6 bo a7 a5 cN a4;gi_wp2_with fail
    exact ⟨HF.out.1, HF.out.2.1, rfl, HF.out.2.2⟩
  · by_cases hv : mm.verdict = 0
    · have h2 : (2 : Int) ∉ Q8 f g (tl.take pre.length) := by
       have h9 := hv;rw [al.out, VA] at h9;exact (best_v0.1 h9).2
      have aa := Ael (f := f) (g := g) (d := d) (pre := tl.take pre.length) (x := l) H1.out h2 (by rw [← am.out]; exact h0);rw [bz.out, ← cq.out, ← a0.out] at aa;have av := Lh aa
      have a8 : Hid ((1 : Int) ∉ Q8 f g (tl.take (pre ++ [x]).length)) := by
       show ¬ _;rw [a0.out, KX, Lz];rintro (h | h)
       · exact H1.out h
       · simp only [Q8, LF, Nc, Lo] at h;rw [← am.out, h0] at h;omega
      rw [hv] at c3;rw [h0];clear aa h0 h2 hv;gi_wp2_with (refine Zb rfl 40 _ rfl T rfl 40 x.r.cells (0, 0) _ a7 Tryz.underlying40 rfl (by kernel_rfl) ?_);refine ⟨trivial, rfl, (callsIn_wide.2 (Ac9 ⟨q, t, d⟩ 2 (pre.length : Int) x.r D M _ W a6 af rfl a5 dc.out)).mono ?_⟩;rintro e W2 ⟨rfl, bm, V1, bV, oV⟩;have bn := af.below bV af.lt
      have HF : Hid (KeepsFrom w9.heap.size V W2 ∧ KpX (fun i => (i = M ∨ lim ≤ i) ∨ i = w9.heap.size + 1) V W2 ∧ (∃ mm, mm = Zr f g d (tl.take (pre ++ [x]).length) ∧ Row W2 M 54 (MtV.mk q t mm).cells.toArray) ∧ Hid ((1 : Int) ∉ Q8 f g (tl.take (pre ++ [x]).length)) ∧ KpX (fun k => k = M ∨ lim ≤ k) w9 W2 ∧ Below w.heap.size w W2 ∧ lim ≤ W2.heap.size) :=
       ⟨aq.trans (((KpX.of_below bV).keeps (b := w9.heap.size) (X := fun _ => False) (fun _ h => h.elim)).trans (KeepsFrom.of_only bn oV)), ar.trans ((KpX.of_below bV).trans (KpX.only oV (.inl (.inl rfl)))),
        ⟨_, av.out.symm, bm⟩, a8.out, ao.trans ((KpX.of_below bV).trans (KpX.only oV (.inl rfl))), Qp (ai.trans (bV.mono ai.size)) oV dp, by have e1 := bV.size; have e2 := oV.size; omega⟩
      clear bn bm bV oV aq ar ao ai af a6 bo a7 a5 cN a4 c3;gi_wp2_with fail
      exact HF.out
    · have e4 : (mm.verdict == 0) = false := by simpa using hv
      have aa := Ev (f := f) (g := g) (d := d) (pre := tl.take pre.length) (x := l) H1.out (by rw [← am.out]; omega) (fun _ => by rw [← al.out]; exact hv);rw [← a0.out] at aa;have av := Lh (al.out.trans aa.symm)
      have a8 : Hid ((1 : Int) ∉ Q8 f g (tl.take (pre ++ [x]).length)) := by
       show ¬ _;rw [a0.out, KX, Lz];rintro (h | h)
       · exact H1.out h
       · simp only [Q8, LF, Nc, Lo] at h;rw [← am.out, h0] at h;omega
      have HF : Hid (KeepsFrom w9.heap.size V W ∧ KpX (fun i => (i = M ∨ lim ≤ i) ∨ i = w9.heap.size + 1) V W ∧ (∃ mm, mm = Zr f g d (tl.take (pre ++ [x]).length) ∧ Row W M 54 (MtV.mk q t mm).cells.toArray) ∧ Hid ((1 : Int) ∉ Q8 f g (tl.take (pre ++ [x]).length)) ∧ KpX (fun k => k = M ∨ lim ≤ k) w9 W ∧ Below w.heap.size w W ∧ lim ≤ W.heap.size) :=
       ⟨aq, ar, ⟨mm, av.out, af⟩, a8.out, ao, ai, a4⟩
      rw [h0];clear aa h0 aq ar ao ai af a6 bo a7 a5 cN a4;gi_wp2_with fail
      exact HF.out
 case stop =>
  rintro T c pre V hD _ ⟨rfl, ⟨mm, ac, h1⟩, h3, h4, h5⟩ hK;have cv : T ≠ R := by have := ah.out; omega
  have ax := h3.row da.out (by omega);have tT : MtT V (MtV.mk q t mm) := Ac6 (by rw [ac]; exact Aff) (by rw [ac]; exact Aa0 d tl (fun a => by rw [← cn.out]; exact Afr _ _ _)) (HT.out.same fun a cs e c4 => h3.row c4 (fun h => by have h8 := dj.out a e; omega));have bu : w9.heap.size ≤ T := hD;have al := Lh (ac.trans HJ.out.symm);have HK := Lh hK;have H4 := Lh h4;have cp := Lh tT;clear ac hK h3 h4 h5 tT;gi_wp2;go_wp2_with (first | (refine wpList_load_row rfl 54 _ rfl M rfl 54 (MtV.mk q t mm).cells.toArray (0, 0) _ h1 Tryz.underlying54 rfl (by kernel_rfl) ?_) | (refine Qv 54 _ _ rfl ?_))
  refine Stop.to ?_;refine Ql rfl 54 _ _ rfl R (MtV.mk q t mm).cells.toArray rfl rfl 54 _ ax (by kernel_rfl) rfl (by simp [MtV.cells, Value.oneCell']) ?_;intro W9 r9 o9;have aw : W9.heap[T]? = some (.deferred (some [])) := (o9.block T cv).trans HK.out;have hr : ∀ r, some T = some r → False ∨ (True ∧ ∃ o : Obj, W9.heap[r]? = some o ∧ o.isCells = false) := fun r e => by cases e; exact .inr ⟨trivial, _, aw, rfl⟩
  have hg := grownBy_putObj' W9 T (.deferred none);have rX := r9.abide hg hr;have b9 := Qp H4.out o9 bs;have bX := b9.grown hg b9.size (fun k e => by cases e; have := ah.out; omega);have tX := (Ac5 cp.out ax (by decide) o9).abide hg hr;have HF : Hid (JudR p d (ts.map IntsV.l) fuel w (W9.putObj T (.deferred none)) (.returned (.tuple #[.agg (MtV.mk q t mm).cells.toArray, .int .i64 0]))) := ⟨_, by rw [Hj.out], fun _ => ⟨al.out, tX⟩, fun h => absurd Hj.out h, bX⟩;have ck := Lh aw;clear hr hg r9 b9 bX tX o9 aw ax h1;go_wp2_with fail
  rw [Exit.noGoto_ret];refine ⟨by simp, .inl ⟨_, _, rfl, run_takeDeferred ck.out, ?_⟩⟩;exact ⟨_, QN Tryz.results29 _ _ R 54 _ (0, 0) _ rfl rX Tryz.underlying54 rfl (by kernel_rfl), HF.out⟩
 case done =>
  rintro T ys V hD eo ⟨⟨mm, ac, h1⟩, _, h3, h4, h5⟩ hK;rw [eo, L1 (by rw [ed.out, L3]; exact Nat.le_refl _)] at ac;have cv : T ≠ R := by have := ah.out; omega
  have ax := h3.row da.out (by omega);have tT : MtT V (MtV.mk q t mm) := Ac6 (by rw [ac]; exact Aff) (by rw [ac]; exact Aa0 d tl (fun a => by rw [← cn.out]; exact Afr _ _ _)) (HT.out.same fun a cs e c4 => h3.row c4 (fun h => by have h8 := dj.out a e; omega));have bu : w9.heap.size ≤ T := hD;have al := Lh (ac.trans HJ.out.symm);have HK := Lh hK;have H4 := Lh h4;have cp := Lh tT;clear ac hK h3 h4 h5 tT;gi_wp2;go_wp2_with (first | (refine wpList_load_row rfl 54 _ rfl M rfl 54 (MtV.mk q t mm).cells.toArray (0, 0) _ h1 Tryz.underlying54 rfl (by kernel_rfl) ?_) | (refine Qv 54 _ _ rfl ?_))
  refine Stop.to ?_;refine Ql rfl 54 _ _ rfl R (MtV.mk q t mm).cells.toArray rfl rfl 54 _ ax (by kernel_rfl) rfl (by simp [MtV.cells, Value.oneCell']) ?_;intro W9 r9 o9;have aw : W9.heap[T]? = some (.deferred (some [])) := (o9.block T cv).trans HK.out;have hr : ∀ r, some T = some r → False ∨ (True ∧ ∃ o : Obj, W9.heap[r]? = some o ∧ o.isCells = false) := fun r e => by cases e; exact .inr ⟨trivial, _, aw, rfl⟩
  have hg := grownBy_putObj' W9 T (.deferred none);have rX := r9.abide hg hr;have b9 := Qp H4.out o9 bs;have bX := b9.grown hg b9.size (fun k e => by cases e; have := ah.out; omega);have tX := (Ac5 cp.out ax (by decide) o9).abide hg hr;have HF : Hid (JudR p d (ts.map IntsV.l) fuel w (W9.putObj T (.deferred none)) (.returned (.tuple #[.agg (MtV.mk q t mm).cells.toArray, .int .i64 0]))) := ⟨_, by rw [Hj.out], fun _ => ⟨al.out, tX⟩, fun h => absurd Hj.out h, bX⟩;have ck := Lh aw;clear hr hg r9 b9 bX tX o9 aw ax h1;go_wp2_with fail
  rw [Exit.noGoto_ret];refine ⟨by simp, .inl ⟨_, _, rfl, run_takeDeferred ck.out, ?_⟩⟩;exact ⟨_, QN Tryz.results29 _ _ R 54 _ (0, 0) _ rfl rX Tryz.underlying54 rfl (by kernel_rfl), HF.out⟩
end Go.Proofs.YtdcmppdhdcjpfaaGreat
