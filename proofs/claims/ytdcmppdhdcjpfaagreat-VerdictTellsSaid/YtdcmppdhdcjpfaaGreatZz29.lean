/- Lemmas for VerdictTellsP. -/
import Derived.Test.YtdcmppdhdcjpfaaGreatZz1
import Derived.Test.YtdcmppdhdcjpfaaGreatZz28
set_option linter.unusedVariables false
set_option linter.unusedSimpArgs false
set_option maxRecDepth 100000
set_option maxHeartbeats 16000000
namespace Go.Proofs.YtdcmppdhdcjpfaaGreat
open Go.RowKit Go.Deep
section
variable {L : Lay} {s : Ms} {ev : Value} {W : World}
theorem RR.setVal (h : RR L s ev W) (hL : LOk0 L) (n : Nat) (v : Int) (hn : n < s.vals.length) : ∃ g cap cur, L.vv = .slice (some ⟨g, 0, none⟩) s.vals.length cap ∧ Row W g 3 cur ∧ n < cur.size ∧ ∀ W1, Only g W W1 → Row W1 g 3 (cur.setIfInBounds n (.int .i64 v)) → RR L { s with vals := s.vals.set n v } ev W1 ∧ RChg L ev W ev W1 := by
 rcases h.core.vals.2 with ⟨_, q⟩ | ⟨g, cap, cur, j, t, x, w, z, d, ht⟩
 · have := h.core.vals.1; rw [q] at this; simp [Qi] at this; omega
 · have b : L.vv.ownBlock = some g := by rw [j]; rfl
   refine ⟨g, cap, cur, j, x, by omega, fun W1 o r1 => ?_⟩;have c := hL.vlt g b;have l : ∀ {e : TypeId} {size m : Nat} {u : Value} {xs : List Value}, W.ownsRow L.b1 e size u m xs → W1.ownsRow L.b1 e size u m xs := fun k => QA k o (fun e => by have := QH k e; omega)
   refine ⟨⟨h.row.only o (fun e => c.2.1 e.symm), ⟨l h.core.evs, ⟨by have := h.core.vals.1; simp [Qi] at this ⊢, .inr ⟨g, cap, _, by simpa using j, t, r1, by simpa using w, z, by simpa using d, ?_⟩⟩, ?_, fun y hy => l (h.core.fr y hy), h.core.dist, hL.im _ _ h.core.im (.only o (.inr (.inr (.inl b)))), by rw [o.size]; exact h.core.size, h.core.sum, h.core.few⟩⟩, .only o (.inr (.inl b))⟩
   · simp only [ND, LK];rw [List.take_set, ht];simp [Qi, List.map_set]
   · intro i p a hi r;exact (h.core.arrs i p a hi r).only o (fun e => c.2.2 (by subst e; exact Lf hi))
theorem RR.setArr (h : RR L s ev W) (hL : LOk0 L) (n i : Nat) (v : Int) (a : List Int) (g : Nat) (hg : L.ab[n]? = some g) (ha : s.arrs[n]? = some a) : Row W g 3 (Qi a).toArray ∧ ∀ W1, Only g W W1 → Row W1 g 3 ((Qi a).toArray.setIfInBounds i (.int .i64 v)) → RR L { s with arrs := s.arrs.set n (a.set i v) } ev W1 ∧ RChg L ev W ev W1 := by
 refine ⟨h.core.arrs n g a hg ha, fun W1 o r1 => ?_⟩;have l := Lf hg;have t := hL.alt g l;have ne : ∀ {e : TypeId} {size m : Nat} {u : Value} {xs : List Value}, W.ownsRow L.b1 e size u m xs → W1.ownsRow L.b1 e size u m xs := fun z => QA z o (fun e => by have := QH z e; omega)
 refine ⟨⟨h.row.only o (fun e => t.2 e.symm), ⟨ne h.core.evs, QA h.core.vals o (fun e => (hL.vlt g e).2.2 l), ?_, fun y hy => ne (h.core.fr y hy), h.core.dist, hL.im _ _ h.core.im (.only o (.inr (.inr (.inr l)))), by rw [o.size]; exact h.core.size, h.core.sum, h.core.few⟩⟩, .only o (.inr (.inr l))⟩;intro j g' b k p;by_cases c : j = n
 · subst c;rw [hg] at k; cases k;have r : j < s.arrs.length := (Lb.1 ha).1;simp only [List.getElem?_set_self r, LX] at p;subst p;have : (Qi (a.set i v)).toArray = (Qi a).toArray.setIfInBounds i (.int .i64 v) := by simp [Qi, List.map_set]
   rw [this]; exact r1
 · have q : s.arrs[j]? = some b := by simpa [N9, Ne.symm c] using p
   refine (h.core.arrs j g' b k q).only o (fun e => c ?_);subst e;obtain ⟨l1, w⟩ := Lb.1 hg;obtain ⟨l2, x⟩ := Lb.1 k;rcases LS j n with d | d | d
   · exact absurd (x.trans w.symm) (Nf.1 hL.and j n l2 l1 d)
   · exact d
   · exact absurd (w.trans x.symm) (Nf.1 hL.and n j l1 l2 d)
end
inductive RC (L : Lay) (x : Nd) (a : Tr) (s1 : Ms) (v : Int) : List Tr → Int → Ms → Prop
 | cut {ks : List Tr} (ht : ZG x.tag) (ho : s1.out.isSome = true) : RC L x a s1 v ks 0 s1
 | neg {u : Int} (ht : x.tag = 5) (ho : s1.out = none) (hu : wrap64 (-v) = u) : RC L x a s1 v [] u s1
 | not {u : Int} (ht : x.tag = 6) (ho : s1.out = none) (hv : v = 0 ∨ v = 1) (hu : 1 - v = u) : RC L x a s1 v [] u s1
 | ret (ht : x.tag = 25) (ho : s1.out = none) : RC L x a s1 v [] 0 (s1.stop 0 v)
 | log0 {b : Tr} {u : Int} (ht : (x.tag = 18 ∧ v = 0 ∧ u = 0) ∨ (x.tag = 19 ∧ v = 1 ∧ u = 1)) (ho : s1.out = none) : RC L x a s1 v [b] u s1
 | log1 {b : Tr} {s2 : Ms} {u : Int} (ht : (x.tag = 18 ∧ (v == 0) = false) ∨ (x.tag = 19 ∧ (v == 1) = false)) (ho : s1.out = none) (h2 : Ent L b s1 u s2) : RC L x a s1 v [b] u s2
 | while0 {b : Tr} (ht : x.tag = 24) (ho : s1.out = none) (hv : v ≠ 1) : RC L x a s1 v [b] 0 s1
 | while1 {b : Tr} {s2 s3 : Ms} {u r : Int} (ht : x.tag = 24) (ho : s1.out = none) (hv : v = 1) (h2 : Ent L b s1 u s2) (h3 : Ent L (.node x [a, b]) s2 r s3) : RC L x a s1 v [b] 0 s3
 | ifs {b c : Tr} {s2 : Ms} {u : Int} (ht : x.tag = 23) (ho : s1.out = none) (h2 : (v = 0 ∧ Ent L c s1 u s2) ∨ (v = 1 ∧ Ent L b s1 u s2)) : RC L x a s1 v [b, c] u s2
 | cut2 {b : Tr} {s2 : Ms} {u : Int} (ht : wide x.tag) (ho : s1.out = none) (h2 : Ent L b s1 u s2) (ho2 : s2.out.isSome = true) : RC L x a s1 v [b] 0 s2
 | pair {b : Tr} {s2 s3 : Ms} {u r : Int} (ht : 7 ≤ x.tag ∧ x.tag ≤ 17) (ho : s1.out = none) (h2 : Ent L b s1 u s2) (ho2 : s2.out = none) (hp : (Zf x.tag v u = some r ∧ s3 = s2) ∨ (Zf x.tag v u = none ∧ r = 0 ∧ s3 = s2.stop 1 0)) : RC L x a s1 v [b] r s3
 | at_ {t u : Int} (ht : x.tag = 4) (hn : 0 ≤ x.n) (hv : L.p.V[x.n.toNat]? = some t) (hs : LenS L.p.V s1) (ho : s1.out = none) (hb : ¬ (v < 0 ∨ ((s1.arr x.n).length : Int) ≤ v)) (hu : ((s1.arr x.n)[v.toNat]?).getD 0 = u) : RC L x a s1 v [] u s1
 | atNo {t : Int} (ht : x.tag = 4) (hn : 0 ≤ x.n) (hv : L.p.V[x.n.toNat]? = some t) (hs : LenS L.p.V s1) (ho : s1.out = none) (hb : v < 0 ∨ ((s1.arr x.n).length : Int) ≤ v) : RC L x a s1 v [] 0 (s1.stop 2 0)
 | set (ht : x.tag = 21) (hn : 0 ≤ x.n) (hv : x.n.toNat < s1.vals.length) (hf : s1.evs.length < s1.steps) (ho : s1.out = none) : RC L x a s1 v [] 0 (s1.setv x.n v)
 | putNo {b : Tr} {s2 : Ms} {u t : Int} (ht : x.tag = 22) (hn : 0 ≤ x.n) (hv : L.p.V[x.n.toNat]? = some t) (hs : LenS L.p.V s2) (ho : s1.out = none) (h2 : Ent L b s1 u s2) (ho2 : s2.out = none) (hb : v < 0 ∨ ((s2.arr x.n).length : Int) ≤ v) : RC L x a s1 v [b] 0 (s2.stop 2 0)
 | put {b : Tr} {s2 : Ms} {u t : Int} (ht : x.tag = 22) (hn : 0 ≤ x.n) (hv : L.p.V[x.n.toNat]? = some t) (hs : LenS L.p.V s2) (hf : s2.evs.length < s2.steps) (ho : s1.out = none) (h2 : Ent L b s1 u s2) (ho2 : s2.out = none) (hb : ¬ (v < 0 ∨ ((s2.arr x.n).length : Int) ≤ v)) : RC L x a s1 v [b] 0 (s2.seta x.n v u)
theorem RC.lo {L : Lay} {x : Nd} {a : Tr} {s1 s3 : Ms} {v u : Int} {ks : List Tr} (h : RC L x a s1 v ks u s3) : ZG x.tag := by
 cases h with
 | cut ht ho => exact ht
 | cut2 ht ho h2 ho2 => exact ht.1
 | _ => unfold ZG; omega
inductive RA (L : Lay) (x : Nd) (s : Ms) : List Tr → Int → Ms → Prop
 | lit {v : Int} (ht : x.tag = 1 ∨ x.tag = 2) (hv : x.n = v) : RA L x s [] v s.tick
 | var {v : Int} (ht : x.tag = 3) (hn : 0 ≤ x.n) (hv : x.n.toNat < s.vals.length) (hu : (s.vals[x.n.toNat]?).getD 0 = v) : RA L x s [] v s.tick
 | skip (ht : x.tag = 26) : RA L x s [] 0 s.tick
 | block {ks : List Tr} {s1 : Ms} (ht : x.tag = 20) (hk : ks.length ≤ 1000) (h1 : AaD L ks s.tick s1) : RA L x s ks 0 s1
 | kid {a : Tr} {ks : List Tr} {s1 s3 : Ms} {v u : Int} (h1 : Ent L a s.tick v s1) (hr : RC L x a s1 v ks u s3) : RA L x s (a :: ks) u s3
theorem Xf (L : Lay) (hL : ROk L) (x : Nd) (ks9 : List Tr) (s s9 : Ms) (v9 : Int) (hg : s.go) (hec : RA L x s ks9 v9 s9) : Ent L (.node x ks9) s v9 s9 := by
 obtain ⟨j, nn⟩ := x;have bc := Lh hec;clear hec;obtain ⟨n9, cw⟩ : ∃ n, ks9.length = n := ⟨_, rfl⟩;have an := Lh cw;clear cw;intro q aq W0 bu h;have HL := Lh hL;have b1 := Lh h;have a0 := Lh bu;obtain ⟨f, hf⟩ : ∃ f, s.fuel = f + 1 := ⟨s.fuel - 1, by have := hg.2; omega⟩;have d := h.row.cellv (i := 10) (v := .bool s.out.isSome) rfl;have c5 := h.row.cellv (i := 5) (v := .int .i64 (s.fuel : Int)) rfl;rw [hg.1] at d;rw [hf] at c5;replace d : W0.cell? ⟨L.M, 10, none⟩ = some (.bool false) := d;replace c5 : W0.cell? ⟨L.M, 5, none⟩ = some (.int .i64 ((f : Int) + 1)) := c5;have cx := h.core.sum;have hF := hL.F;have ef : (((f : Int) + 1) == 0) = false := by simp; omega
 have dg : IntKind.i64.wrap ((f : Int) + 1 - 1) = (f : Int) := by rw [IntWalk.i64_in _ (by omega)]; omega
 have cl : IntKind.i64.wrap (f : Int) = (f : Int) := IntWalk.i64_in _ (by omega);have dh : IntKind.i64.wrap ((s.steps : Int) + 1) = (s.steps : Int) + 1 := IntWalk.i64_in _ (by omega);have bq : s.tick.steps + s.tick.fuel = L.F := by simp only [Ms.tick]; omega
 have az : Hid (ZI (ZI (L.rcells s aq) 5 [.int .i64 (f : Int)]) 6 [.int .i64 ((s.steps : Int) + 1)] = L.rcells s.tick aq) := by
  show _ = _;simp only [Lay.rcells, Ms.tick, hf]; rfl
 have Hf := Lh hf;have c8 := Lh bq;have bf : Hid (L.p.body[q]? = some ⟨j, nn⟩) := bu.root;have dp : (q : Int) < (L.p.body.length : Int) := by have := bu.lt; omega
 have ay : (L.rcells s aq).size = 11 := rfl;clear h bu hL cx hF hf bq;go_enter Tryz.func142, Tryz.ntmps142
 go_wp2_with (refine Qv _ _ _ rfl ?_)
 refine Stop.to ?_;refine Qs rfl 3 _ _ rfl L.M 5 rfl _ rfl [.int .i64 (f : Int)] rfl 201 _ _ b1.out.row (by kernel_rfl) (by show 5 + 1 ≤ 11; omega) (by simp [Value.oneCell']) rfl ?_;intro W1 r1 o1;have c6 := r1.cellv (i := 6) (v := .int .i64 (s.steps : Int)) rfl;clear c5 d ef dg cl;go_wp2_with (refine Qv _ _ _ rfl ?_)
 refine Stop.to ?_;refine Qs rfl 3 _ _ rfl L.M 6 rfl _ rfl [.int .i64 ((s.steps : Int) + 1)] rfl 201 _ _ r1 (by kernel_rfl) (by show 6 + 1 ≤ 11; omega) (by simp [Value.oneCell']) az.out ?_;intro W2 r2 o2;have ca : Only L.M W0 W2 := o1.trans o2;have m2 : RR L s.tick aq W2 := b1.out.setM HL.out ca r2 rfl rfl rfl c8.out (by simp [Ms.tick]);have ak := Lh m2;have al : Hid (RChg L aq W0 aq W2) := RChg.only ca (.inl rfl);have c2 := m2.row.cellv (i := 2) (v := .slice L.p.ba L.p.body.length L.p.bcap) rfl;have bn := HL.out.pok W2 m2.core.im;have ch := Lh bn;obtain ⟨ad, cm, hc⟩ := Z9 bn.brd bf.out;have Hc := Lh hc;have c7 := Lh m2.core.size;have cj := c2;rw [cm] at cj;clear m2 bn ca o1 o2 r1 r2 c6 dh az ay c2 hc cm
 go_wp2_with (first
  | (refine QE rfl 85 _ rfl (ad.add (q * 2)) rfl (Nd.cells ⟨j, nn⟩) _ Hc.out Tryz.underlying85 rfl (by kernel_rfl) ?_)
  | (refine QT _ rfl ?_))
 refine Stop.to ?_;refine Qm rfl 85 rfl _ _ YE rfl ?_;intro X W3 hX rX b3;go_wp2_with (refine Qv _ _ _ rfl ?_)
 refine Stop.to ?_;refine Ql rfl 85 _ _ rfl X (Nd.cells ⟨j, nn⟩).toArray rfl rfl 85 _ rX (by kernel_rfl) rfl (by simp [Nd.cells, Value.oneCell']) ?_;intro W4 r4 o4;have b6 : Below W2.heap.size W2 W4 := (b3.mono hX).trans (o4.below hX);have m4 := ak.out.below HL.out b6;have cn : RChg L aq W0 aq W4 := al.out.trans (.below b6);have cc : Hid (FRow L aq W4 X 85 (Nd.cells ⟨j, nn⟩).toArray) := ⟨ak.out.far_new hX r4.lt, r4⟩;have c2 := m4.row.cellv (i := 2) (v := .slice L.p.ba L.p.body.length L.p.bcap) rfl;have b4 := Lh m4;have cb := Lh cn;have cd := Lh (HL.out.pok W4 m4.core.im).brd;clear b3 b6 o4 rX cj hX Hc r4 m4 cn al ak ch c7;go_wp2_with fail
 refine (Yp L.p.ba L.p.bcap L.p.body (q : Int) W4 cd.out HL.out.blen).mono ?_;rintro e W ⟨kv, rfl, bo, b5⟩;have hm := b4.out.below HL.out b5;have ct : kidsZ L.p.body (q : Int) = QU (Q5 (q + 1) ks9) := a0.out.kidsZ;rw [ct, Ait, an.out] at bo;obtain ⟨KA, ds, rfl, cr, dx, dy⟩ := Ah5 b4.out bo;have HK := Lh cr;have Hm := Lh hm;have HX := Lh (cc.out.go HL.out (.below b5));have HC := Lh (cb.out.trans (.below b5));have x0 := HX.out.2.cellv (i := 0) (v := .int .i64 j) rfl;have x1 := HX.out.2.cellv (i := 1) (v := .int .i64 nn) rfl;clear bo b5 cr hm ct b4 cc cb cd c2 b1 dp bf;cases bc.out with
 | @lit v ht hv =>
  clear bc;obtain rfl : n9 = 0 := an.out.symm;obtain rfl : nn = v9 := hv;rcases (show j = 1 ∨ j = 2 from ht) with rfl | rfl
  all_goals
   go_wp2
   go_ret
   exact ⟨rfl, aq, Hm.out, HC.out⟩
 | @var v ht hn hv hu =>
  clear bc;obtain rfl : n9 = 0 := an.out.symm;obtain rfl : j = 3 := ht;dsimp only at hn hv hu;obtain ⟨a, ha⟩ : ∃ a, s.vals[nn.toNat]? = some a := ⟨_, La hv⟩;rw [ha, LN] at hu;subst hu;have Hn := Lh hn;have Hv := Lh hv;have Ha := Lh ha;clear hn hv ha;obtain ⟨g, du, c0, co⟩ := Xa Hm.out.core.vals (by have := Hv.out; simp only [Ms.tick]; omega);obtain ⟨n, rfl⟩ : ∃ n : Nat, nn = (n : Int) := ⟨nn.toNat, by have := Hn.out; omega⟩;have cg := co n a (by have := Ha.out; rwa [Lg] at this);have c3 := Hm.out.row.cellv (i := 3) (v := L.vv) rfl;rw [c0] at c3;have bv : (n : Int) < ((s.tick.vals.length : Nat) : Int) := by have := Hv.out; rw [Lg] at this; simp only [Ms.tick]; omega
  clear c0 co;generalize s.tick.vals.length = m at *;go_wp2_with fail
  go_quiet (fail)
  go_wp2
  go_ret
  exact ⟨rfl, aq, Hm.out.drew HL.out _, HC.out.trans (.below ⟨rfl, rfl, rfl, Nat.le_refl _, fun _ _ => rfl⟩)⟩
 | skip ht =>
  clear bc;obtain rfl : n9 = 0 := an.out.symm;obtain rfl : j = 26 := ht;go_wp2
  go_ret
  exact ⟨rfl, aq, Hm.out, HC.out⟩
 | @block ks s1 ht hk h1 =>
  clear bc;obtain rfl : j = 20 := ht;obtain rfl : ks9.length = n9 := an.out;have a8 := Lh h1;clear h1;go_wp2
  go_loopw [7] (fun i wr => ∃ (k : Nat) (sk : Ms) (bd : Value), i = .int .i64 (k : Int) ∧ k ≤ ks9.length ∧ Hid (AaD L (ks9.drop k) sk s9) ∧ Hid (RR L sk bd wr) ∧ Hid (FRd L bd wr KA (Qi (QU (Q5 (q + 1) ks9)))) ∧ Hid (RChg L aq W0 bd wr)) (fun i _ => ks9.length - (intOf i).toNat)
  case atStart => exact ⟨0, s.tick, aq, rfl, Nat.zero_le _, a8, Hm, HK, HC⟩
  case round =>
   clear a8 Hm HK HC HX x0 x1;obtain ⟨k, sk, bd, rfl, cq, a8, Hm, HK, HC⟩ := hrel;by_cases bv : k < ks9.length
   · have cs : ks9[k]? = some ks9[k] := La bv;obtain ⟨q1, ai, ac⟩ := XB a0.out (i := k) (k := ks9[k]) cs;have bi := a8.out;rw [LH bv] at bi;obtain ⟨v, s2, he, bx⟩ := bi;have o := Lh (he q1 bd wr ac Hm.out);have ce := Lh bx;obtain ⟨kd, ae, y⟩ : ∃ kd, KA = some kd ∧ wr.cell? (kd.add k) = some (.int .i64 (q1 : Int)) := QR (l := QU _) HK.out.1 (by simp [QU, ai]);subst ae;have dr : (k : Int) < (ks9.length : Int) := by omega
     clear cs ai ac he bx a8 cq;go_wp2_with fail
     refine o.out.mono ?_;rintro e Wa ⟨rfl, ag, be, a4⟩;have c1 := Lh (HK.out.go HL.out a4);have al := Lh (HC.out.trans a4);have ak := Lh be;have dw : IntKind.i64.wrap ((k : Int) + 1) = (k : Int) + 1 := IntWalk.i64_in _ (by omega);clear be a4 y o HK HC Hm;go_wp2
     go_roundw
     case rel => exact ⟨k + 1, s2, ag, rfl, by omega, ce, ak, c1, al⟩
     case measure => simp [intOf]; omega
   · have hz : ks9.length = k := by omega
     have dz : (k : Int) = (ks9.length : Int) := by omega
     have bi := a8.out;rw [List.drop_of_length_le (by omega)] at bi;obtain rfl : sk = s9 := bi;clear bv cq hz a8;go_wp2
     go_ret
     exact ⟨rfl, bd, Hm.out, HC.out⟩
 | @kid a ks s1 s3 v u h1 hr =>
  clear bc;have Hr := Lh hr;have cu : ZG j := hr.lo;unfold ZG at cu;clear hr;have e1 : (j == 1) = false := by simp; omega
  have e2 : (j == 2) = false := by simp; omega
  have e3 : (j == 3) = false := by simp; omega
  have b7 : (j == 20) = false := by simp; omega
  have b8 : (j == 26) = false := by simp; omega
  have dn : (0 : Int) < (n9 : Int) := by have := an.out; rw [Lc] at this; omega
  clear cu;obtain ⟨q1, ai, ac⟩ := XB a0.out (i := 0) (k := a) rfl;have y : ∃ kd, KA = some kd ∧ W.cell? (kd.add 0) = some (.int .i64 (q1 : Int)) := QR (l := QU _) HK.out.1 (by simp [QU, ai]);obtain ⟨kd, rfl, y⟩ := y;have aj : W.cell? kd = some (.int .i64 (q1 : Int)) := y;have o := Lh (h1 q1 aq W ac Hm.out);clear ac ai h1;go_wp2_with fail
  refine o.out.mono ?_;rintro e Wa ⟨rfl, ag, be, a4⟩;replace HX := Lh (HX.out.go HL.out a4);replace HK := Lh (HK.out.go HL.out a4);replace HC := Lh (HC.out.trans a4);clear x0 x1 y aj Hm o;have Hm := Lh be;have x0 := HX.out.2.cellv (i := 0) (v := .int .i64 j) rfl;have x1 := HX.out.2.cellv (i := 1) (v := .int .i64 nn) rfl;have d := be.row.cellv (i := 10) (v := .bool s1.out.isSome) rfl;clear be a4;clear dn e1 e2 e3 b7 b8;cases Hr.out with
  | cut ht ho =>
   clear Hr;rw [ho] at d;clear ho;go_wp2
   go_ret
   exact ⟨rfl, ag, Hm.out, HC.out⟩
  | @neg u ht ho hu =>
   clear Hr;obtain rfl : n9 = 1 := an.out.symm;obtain rfl : j = 5 := ht;subst hu;rw [ho] at d;replace d : Wa.cell? ⟨L.M, 10, none⟩ = some (.bool false) := d;clear ho;go_wp2
   go_ret
   exact ⟨Qo (by simp), ag, Hm.out, HC.out⟩
  | @not u ht ho hv hu =>
   clear Hr;obtain rfl : n9 = 1 := an.out.symm;obtain rfl : j = 6 := ht;subst hu;rw [ho] at d;replace d : Wa.cell? ⟨L.M, 10, none⟩ = some (.bool false) := d;clear ho;have ew : IntKind.i64.wrap (1 - v) = 1 - v := IntWalk.i64_in _ (by omega);clear hv;go_wp2
   go_ret
   exact ⟨rfl, ag, Hm.out, HC.out⟩
  | ret ht ho =>
   clear Hr;obtain rfl : n9 = 1 := an.out.symm;obtain rfl : j = 25 := ht;have Hz : Hid (s1.stopped 0 v = s1.stop 0 v) := by show _ = _; unfold Ms.stopped; rw [ho]; rfl
   rw [ho] at d;replace d : Wa.cell? ⟨L.M, 10, none⟩ = some (.bool false) := d;clear ho;go_wp2_with fail
   refine (JR L HL.out s1 ag 0 v Wa Hm.out).mono ?_;rintro e Wb ⟨rfl, z, w⟩;have ak := Lh z;have al := Lh (HC.out.trans w);clear z w Hm HC HX HK x0 x1 d;go_wp2
   go_ret
   exact ⟨rfl, ag, by rw [← Hz.out]; exact ak.out, al.out⟩
  | @log0 b u ht ho =>
   clear Hr;obtain rfl : n9 = 2 := an.out.symm;rcases (show (j = 18 ∧ v = 0 ∧ v9 = 0) ∨ (j = 19 ∧ v = 1 ∧ v9 = 1) from ht) with ⟨rfl, rfl, rfl⟩ | ⟨rfl, rfl, rfl⟩
   all_goals
    rw [ho] at d
    replace d : Wa.cell? ⟨L.M, 10, none⟩ = some (.bool false) := d
    clear ho
    go_wp2
    go_ret
    exact ⟨rfl, ag, Hm.out, HC.out⟩
  | @log1 b s2 u ht ho h2 =>
   clear Hr;obtain rfl : n9 = 2 := an.out.symm;rcases (show (j = 18 ∧ (v == 0) = false) ∨ (j = 19 ∧ (v == 1) = false) from ht) with ⟨rfl, ev⟩ | ⟨rfl, ev⟩
   all_goals
    rw [ho] at d
    replace d : Wa.cell? ⟨L.M, 10, none⟩ = some (.bool false) := d
    clear ho
    obtain ⟨q1, ai, ac⟩ := XB a0.out (i := 1) (k := b) rfl
    have y : ∃ af, some kd = some af ∧ Wa.cell? (af.add 1) = some (.int .i64 (q1 : Int)) := QR (l := QU _) HK.out.1 (by simp [QU, ai])
    obtain ⟨af, ae, y⟩ := y
    injection ae with ae
    subst ae
    have aj : Wa.cell? ⟨kd.block, kd.off + 1, none⟩ = some (.int .i64 (q1 : Int)) := by simpa [Addr.add] using y
    have o := Lh (h2 q1 ag Wa ac Hm.out)
    clear ac ai h2
    go_wp2_with fail
    refine o.out.mono ?_
    rintro e Wb ⟨rfl, ah, z, w⟩
    replace HX := Lh (HX.out.go HL.out w)
    replace HK := Lh (HK.out.go HL.out w)
    replace HC := Lh (HC.out.trans w)
    clear x0 x1 y aj d Hm o
    have Hm := Lh z
    have x0 := HX.out.2.cellv (i := 0) (v := .int .i64 _) rfl
    have x1 := HX.out.2.cellv (i := 1) (v := .int .i64 nn) rfl
    have d := z.row.cellv (i := 10) (v := .bool s9.out.isSome) rfl
    clear z w
    go_wp2
    go_ret
    exact ⟨rfl, ah, Hm.out, HC.out⟩
  | @while0 b ht ho hv =>
   clear Hr;obtain rfl : n9 = 2 := an.out.symm;obtain rfl : j = 24 := ht;have ev : (v == 1) = false := by simpa using hv
   clear hv;rw [ho] at d;replace d : Wa.cell? ⟨L.M, 10, none⟩ = some (.bool false) := d;clear ho;go_wp2
   go_ret
   exact ⟨rfl, ag, Hm.out, HC.out⟩
  | @while1 b s2 s3 u r ht ho hv h2 h3 =>
   clear Hr;obtain rfl : n9 = 2 := an.out.symm;obtain rfl : j = 24 := ht;subst hv;rw [ho] at d;replace d : Wa.cell? ⟨L.M, 10, none⟩ = some (.bool false) := d;clear ho;obtain ⟨q1, ai, ac⟩ := XB a0.out (i := 1) (k := b) rfl;have y : ∃ af, some kd = some af ∧ Wa.cell? (af.add 1) = some (.int .i64 (q1 : Int)) := QR (l := QU _) HK.out.1 (by simp [QU, ai]);obtain ⟨af, ae, y⟩ := y;injection ae with ae;subst ae;have aj : Wa.cell? ⟨kd.block, kd.off + 1, none⟩ = some (.int .i64 (q1 : Int)) := by simpa [Addr.add] using y
   have o := Lh (h2 q1 ag Wa ac Hm.out);clear ac ai h2;go_wp2_with fail
   refine o.out.mono ?_;rintro e Wb ⟨rfl, ah, z, w⟩;replace HX := Lh (HX.out.go HL.out w);replace HK := Lh (HK.out.go HL.out w);replace HC := Lh (HC.out.trans w);clear x0 x1 y aj d Hm o;have Hm := Lh z;have x0 := HX.out.2.cellv (i := 0) (v := .int .i64 24) rfl;have x1 := HX.out.2.cellv (i := 1) (v := .int .i64 nn) rfl;have d := z.row.cellv (i := 10) (v := .bool s2.out.isSome) rfl;clear z w;have o := Lh (h3 q ah Wb a0.out Hm.out);clear h3 d;go_wp2_with fail
   refine o.out.mono ?_;rintro e Wc ⟨rfl, df, bk, bg⟩;have ak := Lh bk;have al := Lh (HC.out.trans bg);clear bk bg Hm HC HX HK x0 x1 o;go_wp2
   go_ret
   exact ⟨rfl, df, ak.out, al.out⟩
  | @ifs b c s2 u ht ho h2 =>
   clear Hr;obtain rfl : n9 = 3 := an.out.symm;obtain rfl : j = 23 := ht;rw [ho] at d;replace d : Wa.cell? ⟨L.M, 10, none⟩ = some (.bool false) := d;clear ho;rcases h2 with ⟨rfl, h2⟩ | ⟨rfl, h2⟩
   · skip;obtain ⟨q1, ai, ac⟩ := XB a0.out (i := 2) (k := c) rfl;have y : ∃ af, some kd = some af ∧ Wa.cell? (af.add 2) = some (.int .i64 (q1 : Int)) := QR (l := QU _) HK.out.1 (by simp [QU, ai]);obtain ⟨af, ae, y⟩ := y;injection ae with ae;subst ae;have aj : Wa.cell? ⟨kd.block, kd.off + 2, none⟩ = some (.int .i64 (q1 : Int)) := by simpa [Addr.add] using y
     have o := Lh (h2 q1 ag Wa ac Hm.out);clear ac ai h2;go_wp2_with fail
     refine o.out.mono ?_;rintro e Wb ⟨rfl, ah, z, w⟩;replace HX := Lh (HX.out.go HL.out w);replace HK := Lh (HK.out.go HL.out w);replace HC := Lh (HC.out.trans w);clear x0 x1 y aj d Hm o;have Hm := Lh z;have x0 := HX.out.2.cellv (i := 0) (v := .int .i64 23) rfl;have x1 := HX.out.2.cellv (i := 1) (v := .int .i64 nn) rfl;have d := z.row.cellv (i := 10) (v := .bool s9.out.isSome) rfl;clear z w;go_wp2
     go_ret
     exact ⟨rfl, ah, Hm.out, HC.out⟩
   · skip;obtain ⟨q1, ai, ac⟩ := XB a0.out (i := 1) (k := b) rfl;have y : ∃ af, some kd = some af ∧ Wa.cell? (af.add 1) = some (.int .i64 (q1 : Int)) := QR (l := QU _) HK.out.1 (by simp [QU, ai]);obtain ⟨af, ae, y⟩ := y;injection ae with ae;subst ae;have aj : Wa.cell? ⟨kd.block, kd.off + 1, none⟩ = some (.int .i64 (q1 : Int)) := by simpa [Addr.add] using y
     have o := Lh (h2 q1 ag Wa ac Hm.out);clear ac ai h2;go_wp2_with fail
     refine o.out.mono ?_;rintro e Wb ⟨rfl, ah, z, w⟩;replace HX := Lh (HX.out.go HL.out w);replace HK := Lh (HK.out.go HL.out w);replace HC := Lh (HC.out.trans w);clear x0 x1 y aj d Hm o;have Hm := Lh z;have x0 := HX.out.2.cellv (i := 0) (v := .int .i64 23) rfl;have x1 := HX.out.2.cellv (i := 1) (v := .int .i64 nn) rfl;have d := z.row.cellv (i := 10) (v := .bool s9.out.isSome) rfl;clear z w;go_wp2
     go_ret
     exact ⟨rfl, ah, Hm.out, HC.out⟩
  | @cut2 b s2 u ht ho h2 ho2 =>
   clear Hr;obtain rfl : n9 = 2 := an.out.symm;have Ht : Hid (wide j) := ht;have e1 : (j == 1) = false := by have := Ht.out; simp; first | omega | (unfold wide ZG at this; omega)
   have e2 : (j == 2) = false := by have := Ht.out; simp; first | omega | (unfold wide ZG at this; omega)
   have e3 : (j == 3) = false := by have := Ht.out; simp; first | omega | (unfold wide ZG at this; omega)
   have b7 : (j == 20) = false := by have := Ht.out; simp; first | omega | (unfold wide ZG at this; omega)
   have b8 : (j == 26) = false := by have := Ht.out; simp; first | omega | (unfold wide ZG at this; omega)
   have e4 : (j == 4) = false := by have := Ht.out; simp; first | omega | (unfold wide ZG at this; omega)
   have e5 : (j == 5) = false := by have := Ht.out; simp; first | omega | (unfold wide ZG at this; omega)
   have e6 : (j == 6) = false := by have := Ht.out; simp; first | omega | (unfold wide ZG at this; omega)
   have c9 : (j == 18) = false := by have := Ht.out; simp; first | omega | (unfold wide ZG at this; omega)
   have da : (j == 19) = false := by have := Ht.out; simp; first | omega | (unfold wide ZG at this; omega)
   have db : (j == 21) = false := by have := Ht.out; simp; first | omega | (unfold wide ZG at this; omega)
   have dc : (j == 23) = false := by have := Ht.out; simp; first | omega | (unfold wide ZG at this; omega)
   have dd : (j == 24) = false := by have := Ht.out; simp; first | omega | (unfold wide ZG at this; omega)
   have de : (j == 25) = false := by have := Ht.out; simp; first | omega | (unfold wide ZG at this; omega)
   rw [ho] at d;replace d : Wa.cell? ⟨L.M, 10, none⟩ = some (.bool false) := d;clear ho;obtain ⟨q1, ai, ac⟩ := XB a0.out (i := 1) (k := b) rfl;have y : ∃ af, some kd = some af ∧ Wa.cell? (af.add 1) = some (.int .i64 (q1 : Int)) := QR (l := QU _) HK.out.1 (by simp [QU, ai]);obtain ⟨af, ae, y⟩ := y;injection ae with ae;subst ae;have aj : Wa.cell? ⟨kd.block, kd.off + 1, none⟩ = some (.int .i64 (q1 : Int)) := by simpa [Addr.add] using y
   have o := Lh (h2 q1 ag Wa ac Hm.out);clear ac ai h2;go_wp2_with fail
   refine o.out.mono ?_;rintro e Wb ⟨rfl, ah, z, w⟩;replace HX := Lh (HX.out.go HL.out w);replace HK := Lh (HK.out.go HL.out w);replace HC := Lh (HC.out.trans w);clear x0 x1 y aj d Hm o;have Hm := Lh z;have x0 := HX.out.2.cellv (i := 0) (v := .int .i64 j) rfl;have x1 := HX.out.2.cellv (i := 1) (v := .int .i64 nn) rfl;have d := z.row.cellv (i := 10) (v := .bool s9.out.isSome) rfl;clear z w;rw [ho2] at d;go_wp2
   go_ret
   exact ⟨rfl, ah, Hm.out, HC.out⟩
  | @pair b s2 s3 u r ht ho h2 ho2 hp =>
   clear Hr;obtain rfl : n9 = 2 := an.out.symm;have Ht : Hid (7 ≤ j ∧ j ≤ 17) := ht;have Hp : Hid ((Zf j v u = some v9 ∧ s9 = s2) ∨ (Zf j v u = none ∧ v9 = 0 ∧ s9 = s2.stop 1 0)) := hp;clear hp ht;have e1 : (j == 1) = false := by have := Ht.out; simp; first | omega | (unfold wide ZG at this; omega)
   have e2 : (j == 2) = false := by have := Ht.out; simp; first | omega | (unfold wide ZG at this; omega)
   have e3 : (j == 3) = false := by have := Ht.out; simp; first | omega | (unfold wide ZG at this; omega)
   have b7 : (j == 20) = false := by have := Ht.out; simp; first | omega | (unfold wide ZG at this; omega)
   have b8 : (j == 26) = false := by have := Ht.out; simp; first | omega | (unfold wide ZG at this; omega)
   have e4 : (j == 4) = false := by have := Ht.out; simp; first | omega | (unfold wide ZG at this; omega)
   have e5 : (j == 5) = false := by have := Ht.out; simp; first | omega | (unfold wide ZG at this; omega)
   have e6 : (j == 6) = false := by have := Ht.out; simp; first | omega | (unfold wide ZG at this; omega)
   have c9 : (j == 18) = false := by have := Ht.out; simp; first | omega | (unfold wide ZG at this; omega)
   have da : (j == 19) = false := by have := Ht.out; simp; first | omega | (unfold wide ZG at this; omega)
   have db : (j == 21) = false := by have := Ht.out; simp; first | omega | (unfold wide ZG at this; omega)
   have dc : (j == 23) = false := by have := Ht.out; simp; first | omega | (unfold wide ZG at this; omega)
   have dd : (j == 24) = false := by have := Ht.out; simp; first | omega | (unfold wide ZG at this; omega)
   have de : (j == 25) = false := by have := Ht.out; simp; first | omega | (unfold wide ZG at this; omega)
   have dv : (j == 22) = false := by have := Ht.out; simp; omega
   rw [ho] at d;replace d : Wa.cell? ⟨L.M, 10, none⟩ = some (.bool false) := d;clear ho;obtain ⟨q1, ai, ac⟩ := XB a0.out (i := 1) (k := b) rfl;have y : ∃ af, some kd = some af ∧ Wa.cell? (af.add 1) = some (.int .i64 (q1 : Int)) := QR (l := QU _) HK.out.1 (by simp [QU, ai]);obtain ⟨af, ae, y⟩ := y;injection ae with ae;subst ae;have aj : Wa.cell? ⟨kd.block, kd.off + 1, none⟩ = some (.int .i64 (q1 : Int)) := by simpa [Addr.add] using y
   have o := Lh (h2 q1 ag Wa ac Hm.out);clear ac ai h2;go_wp2_with fail
   refine o.out.mono ?_;rintro e Wb ⟨rfl, ah, z, w⟩;replace HX := Lh (HX.out.go HL.out w);replace HK := Lh (HK.out.go HL.out w);replace HC := Lh (HC.out.trans w);clear x0 x1 y aj d Hm o;have Hm := Lh z;have x0 := HX.out.2.cellv (i := 0) (v := .int .i64 j) rfl;have x1 := HX.out.2.cellv (i := 1) (v := .int .i64 nn) rfl;have d := z.row.cellv (i := 10) (v := .bool s2.out.isSome) rfl;clear z w;have Hz : Hid (s2.stopped 1 0 = s2.stop 1 0) := by show _ = _; unfold Ms.stopped; rw [ho2]; rfl
   rw [ho2] at d;replace d : Wb.cell? ⟨L.M, 10, none⟩ = some (.bool false) := d;clear ho2;go_wp2_with fail
   rcases Hp.out with ⟨hp, rfl⟩ | ⟨hp, rfl, rfl⟩
   · skip;refine (Ahm L.M j v u _ Wb Ht.out hp).mono ?_;rintro e Wc ⟨rfl, rfl⟩;clear hp;go_wp2
     go_ret
     exact ⟨rfl, ah, Hm.out, HC.out⟩
   · skip;refine (AeF L HL.out s2 ah j v u Wb Hm.out hp).mono ?_;rintro e Wc ⟨rfl, bk, bg⟩;clear hp;have ak := Lh bk;have al := Lh (HC.out.trans bg);clear bk bg Hm HC HX HK x0 x1 d;go_wp2
     go_ret
     exact ⟨rfl, ah, by rw [← Hz.out]; exact ak.out, al.out⟩
  | @at_ t u ht hn hv hs ho hb hu =>
   clear Hr;obtain rfl : n9 = 1 := an.out.symm;obtain rfl : j = 4 := ht;obtain ⟨i, rfl⟩ : ∃ i : Nat, v = (i : Int) := ⟨v.toNat, by omega⟩;dsimp only at hu;subst hu;dsimp only at hn hv hb;have Hn := Lh hn;have Hv := Lh hv;have Hs := Lh hs;have Hb := Lh hb;clear hn hv hs hb;rw [ho] at d;replace d : Wa.cell? ⟨L.M, 10, none⟩ = some (.bool false) := d;clear ho;obtain ⟨n, rfl⟩ : ∃ n : Nat, nn = (n : Int) := ⟨nn.toNat, by have := Hn.out; omega⟩;have ax := Hv.out;rw [Lg] at ax;have aw : n < L.ab.length := by rw [HL.out.alen]; exact (Lb.1 ax).1
   obtain ⟨gA, ao⟩ : ∃ g, L.ab[n]? = some g := ⟨_, La aw⟩;obtain ⟨aA, t', ap, a2, au⟩ := HL.out.arrs Wa Hm.out.core.im n gA ao;obtain ⟨ar, am⟩ : ∃ a, s9.arrs[n]? = some a := ⟨_, La (by rw [Hs.out.alen, ← HL.out.alen]; exact aw)⟩;have a1 : s9.arr (n : Int) = ar := by unfold Ms.arr; rw [Lg, am]; rfl
   have ay : (Qx t').toNat = ar.length := by have := Hs.out.len n t' ar a2 am; omega
   have a5 := Hm.out.core.arrs n gA ar ao am;rw [ay] at au;have c4 := Hm.out.row.cellv (i := 4) (v := .slice L.aa L.ab.length L.acap) rfl;rw [ap] at c4;have bw : (n : Int) < (L.ab.length : Int) := by omega
   have a3 := Lh a1;have bt := Lh ao;have bs := Lh am;clear ax aw ap a2 ay a1 ao am;have hb := Hb.out;rw [a3.out] at hb;have bj : i < ar.length := by omega
   have dm : (i : Int) < (ar.length : Int) := by omega
   have dk : ¬ (i : Int) < 0 := by omega
   have br : ((s9.arr (n : Int))[(i : Int).toNat]?).getD 0 = ar[i] := by rw [a3.out, Lg, La bj, LN]
   have cA := a5.cellv (i := i) (v := .int .i64 ar[i]) (by simp [Qi]);generalize ar[i] = av at cA br;have ci := Lh br;clear br hb a5 bj;go_wp2_with fail
   go_quiet (fail)
   go_wp2_with fail
   go_quiet (fail)
   go_wp2
   go_ret
   exact ⟨Qo ci.out, ag, (Hm.out.drew HL.out _).drew HL.out _, HC.out.trans (.below ⟨rfl, rfl, rfl, Nat.le_refl _, fun _ _ => rfl⟩)⟩
  | @atNo t ht hn hv hs ho hb =>
   clear Hr;obtain rfl : n9 = 1 := an.out.symm;obtain rfl : j = 4 := ht;have Hz : Hid (s1.stopped 2 0 = s1.stop 2 0) := by show _ = _; unfold Ms.stopped; rw [ho]; rfl
   dsimp only at hn hv hb;have Hn := Lh hn;have Hv := Lh hv;have Hs := Lh hs;have Hb := Lh hb;clear hn hv hs hb;rw [ho] at d;replace d : Wa.cell? ⟨L.M, 10, none⟩ = some (.bool false) := d;clear ho;obtain ⟨n, rfl⟩ : ∃ n : Nat, nn = (n : Int) := ⟨nn.toNat, by have := Hn.out; omega⟩;have ax := Hv.out;rw [Lg] at ax;have aw : n < L.ab.length := by rw [HL.out.alen]; exact (Lb.1 ax).1
   obtain ⟨gA, ao⟩ : ∃ g, L.ab[n]? = some g := ⟨_, La aw⟩;obtain ⟨aA, t', ap, a2, au⟩ := HL.out.arrs Wa Hm.out.core.im n gA ao;obtain ⟨ar, am⟩ : ∃ a, s1.arrs[n]? = some a := ⟨_, La (by rw [Hs.out.alen, ← HL.out.alen]; exact aw)⟩;have a1 : s1.arr (n : Int) = ar := by unfold Ms.arr; rw [Lg, am]; rfl
   have ay : (Qx t').toNat = ar.length := by have := Hs.out.len n t' ar a2 am; omega
   have a5 := Hm.out.core.arrs n gA ar ao am;rw [ay] at au;have c4 := Hm.out.row.cellv (i := 4) (v := .slice L.aa L.ab.length L.acap) rfl;rw [ap] at c4;have bw : (n : Int) < (L.ab.length : Int) := by omega
   have a3 := Lh a1;have bt := Lh ao;have bs := Lh am;clear ax aw ap a2 ay a1 ao am;have hb := Hb.out;rw [a3.out] at hb;clear a5;by_cases h0 : v < 0
   · clear hb;go_wp2_with fail
     go_quiet (fail)
     go_wp2_with fail
     refine (JR L HL.out s1 ag 2 0 _ (Hm.out.drew HL.out _)).mono ?_;rintro e Wb ⟨rfl, z, w⟩;have ak := Lh z;have al := Lh (HC.out.trans ((RChg.below ⟨rfl, rfl, rfl, Nat.le_refl _, fun _ _ => rfl⟩ : RChg L ag Wa ag (Wa.drewN nq)).trans w));clear z w Hm HC HX HK x0 x1 d c4 au;go_wp2
     go_ret
     exact ⟨rfl, ag, by rw [← Hz.out]; exact ak.out, al.out⟩
   · have dj : (ar.length : Int) ≤ v := by omega
     have di : 0 ≤ v := by omega
     clear hb h0;go_wp2_with fail
     go_quiet (fail)
     go_wp2_with fail
     refine (JR L HL.out s1 ag 2 0 _ (Hm.out.drew HL.out _)).mono ?_;rintro e Wb ⟨rfl, z, w⟩;have ak := Lh z;have al := Lh (HC.out.trans ((RChg.below ⟨rfl, rfl, rfl, Nat.le_refl _, fun _ _ => rfl⟩ : RChg L ag Wa ag (Wa.drewN nq)).trans w));clear z w Hm HC HX HK x0 x1 d c4 au;go_wp2
     go_ret
     exact ⟨rfl, ag, by rw [← Hz.out]; exact ak.out, al.out⟩
  | set ht hn hv hf ho =>
   clear Hr;obtain rfl : n9 = 1 := an.out.symm;obtain rfl : j = 21 := ht;dsimp only at hn hv;have Hn := Lh hn;have Hv := Lh hv;have bz := Lh hf;clear hn hv hf;rw [ho] at d;replace d : Wa.cell? ⟨L.M, 10, none⟩ = some (.bool false) := d;clear ho;obtain ⟨n, rfl⟩ : ∃ n : Nat, nn = (n : Int) := ⟨nn.toNat, by have := Hn.out; omega⟩;have cz := Hv.out;rw [Lg] at cz;obtain ⟨gv, dt, cv, _⟩ := Xa Hm.out.core.vals (by omega);have c3 := Hm.out.row.cellv (i := 3) (v := L.vv) rfl;rw [cv] at c3;have bw : (n : Int) < (s1.vals.length : Int) := by omega
   go_wp2_with fail
   refine QM 8 (by kernel_rfl) (by kernel_rfl) ?_;simp only [L0, LE, Ly, L8];have a7 : ∀ a u, Wa.cell? a = some u → Wa.drew.cell? a = some u := fun _ _ h => h
   replace c3 := a7 _ _ c3;replace x1 := a7 _ _ x1;replace Hm := Lh (Hm.out.drew HL.out 1);replace Hm : Hid (RR L s1 ag Wa.drew) := Hm;replace HX : Hid (FRow L ag Wa.drew X 85 (Nd.cells ⟨21, (n : Int)⟩).toArray) := Lh (HX.out.go HL.out (.below ⟨rfl, rfl, rfl, Nat.le_refl _, fun _ _ => rfl⟩));replace HC : Hid (RChg L aq W0 ag Wa.drew) := Lh (HC.out.trans (.below ⟨rfl, rfl, rfl, Nat.le_refl _, fun _ _ => rfl⟩));clear a7 x0 d HK;generalize Wa.drew = Wd at *
   repeat still_step
   refine wpStill_nil ?_;obtain ⟨g', dq, ck, cy, bp, cp, a6⟩ := Hm.out.setVal HL.out n v cz;rw [cv] at cy;cases cy;have az := EQ ck n (.int .i64 v) cp;go_wp2_with (refine Qv _ _ _ rfl ?_)
   refine Stop.to ?_;refine Qs rfl 3 _ _ rfl gv n rfl _ rfl [.int .i64 v] rfl 3 _ _ bp (by kernel_rfl) (by simp; omega) (by simp [Value.oneCell']) az ?_;intro We re oe;obtain ⟨bl, a9⟩ := a6 We oe re;replace HX := Lh (HX.out.go HL.out a9);have x1 := HX.out.2.cellv (i := 1) (v := .int .i64 (n : Int)) rfl;have ak := Lh bl;have al := Lh (HC.out.trans a9);clear bl a9 re oe a6 bp az cp c3 HC Hm;go_wp2_with fail
   refine Calls.mono (ES L HL.out _ (s1.setv (n : Int) v) ag (n : Int) (-1) v We ak.out rfl rfl rfl rfl rfl bz.out rfl) ?_;rintro e Wf ⟨⟨u, rfl⟩, b9, bm, bh⟩;have b2 := Lh bm;have b0 := Lh (al.out.trans bh);clear bm bh ak al HX x1;go_wp2
   go_ret
   exact ⟨rfl, b9, b2.out, b0.out⟩
  | @putNo b s2 u t ht hn hv hs ho h2 ho2 hb =>
   clear Hr;obtain rfl : n9 = 2 := an.out.symm;obtain rfl : j = 22 := ht;have Hz : Hid (s2.stopped 2 0 = s2.stop 2 0) := by show _ = _; unfold Ms.stopped; rw [ho2]; rfl
   dsimp only at hn hv hb;have Hn := Lh hn;have Hv := Lh hv;have Hs := Lh hs;have Hb := Lh hb;clear hn hv hs hb;rw [ho] at d;replace d : Wa.cell? ⟨L.M, 10, none⟩ = some (.bool false) := d;clear ho;obtain ⟨q1, ai, ac⟩ := XB a0.out (i := 1) (k := b) rfl;have y : ∃ af, some kd = some af ∧ Wa.cell? (af.add 1) = some (.int .i64 (q1 : Int)) := QR (l := QU _) HK.out.1 (by simp [QU, ai]);obtain ⟨af, ae, y⟩ := y;injection ae with ae;subst ae;have aj : Wa.cell? ⟨kd.block, kd.off + 1, none⟩ = some (.int .i64 (q1 : Int)) := by simpa [Addr.add] using y
   have o := Lh (h2 q1 ag Wa ac Hm.out);clear ac ai h2;go_wp2_with fail
   refine o.out.mono ?_;rintro e Wb ⟨rfl, ah, z, w⟩;replace HX := Lh (HX.out.go HL.out w);replace HK := Lh (HK.out.go HL.out w);replace HC := Lh (HC.out.trans w);clear x0 x1 y aj d Hm o;have Hm := Lh z;have x0 := HX.out.2.cellv (i := 0) (v := .int .i64 22) rfl;have x1 := HX.out.2.cellv (i := 1) (v := .int .i64 nn) rfl;have d := z.row.cellv (i := 10) (v := .bool s2.out.isSome) rfl;clear z w;rw [ho2] at d;replace d : Wb.cell? ⟨L.M, 10, none⟩ = some (.bool false) := d;clear ho2;obtain ⟨n, rfl⟩ : ∃ n : Nat, nn = (n : Int) := ⟨nn.toNat, by have := Hn.out; omega⟩;have ax := Hv.out;rw [Lg] at ax;have aw : n < L.ab.length := by rw [HL.out.alen]; exact (Lb.1 ax).1
   obtain ⟨gA, ao⟩ : ∃ g, L.ab[n]? = some g := ⟨_, La aw⟩;obtain ⟨aA, t', ap, a2, au⟩ := HL.out.arrs Wb Hm.out.core.im n gA ao;obtain ⟨ar, am⟩ : ∃ a, s2.arrs[n]? = some a := ⟨_, La (by rw [Hs.out.alen, ← HL.out.alen]; exact aw)⟩;have a1 : s2.arr (n : Int) = ar := by unfold Ms.arr; rw [Lg, am]; rfl
   have ay : (Qx t').toNat = ar.length := by have := Hs.out.len n t' ar a2 am; omega
   have a5 := Hm.out.core.arrs n gA ar ao am;rw [ay] at au;have c4 := Hm.out.row.cellv (i := 4) (v := .slice L.aa L.ab.length L.acap) rfl;rw [ap] at c4;have bw : (n : Int) < (L.ab.length : Int) := by omega
   have a3 := Lh a1;have bt := Lh ao;have bs := Lh am;clear ax aw ap a2 ay a1 ao am;have hb := Hb.out;rw [a3.out] at hb;clear a5;by_cases h0 : v < 0
   · clear hb;go_wp2_with fail
     go_quiet (fail)
     go_wp2_with fail
     refine (JR L HL.out s2 ah 2 0 _ (Hm.out.drew HL.out _)).mono ?_;rintro e Wc ⟨rfl, z, w⟩;have ak := Lh z;have al := Lh (HC.out.trans ((RChg.below ⟨rfl, rfl, rfl, Nat.le_refl _, fun _ _ => rfl⟩ : RChg L ah Wb ah (Wb.drewN nq)).trans w));clear z w Hm HC HX HK x0 x1 d c4 au;go_wp2
     go_ret
     exact ⟨rfl, ah, by rw [← Hz.out]; exact ak.out, al.out⟩
   · have dj : (ar.length : Int) ≤ v := by omega
     have di : 0 ≤ v := by omega
     clear hb h0;go_wp2_with fail
     go_quiet (fail)
     go_wp2_with fail
     refine (JR L HL.out s2 ah 2 0 _ (Hm.out.drew HL.out _)).mono ?_;rintro e Wc ⟨rfl, z, w⟩;have ak := Lh z;have al := Lh (HC.out.trans ((RChg.below ⟨rfl, rfl, rfl, Nat.le_refl _, fun _ _ => rfl⟩ : RChg L ah Wb ah (Wb.drewN nq)).trans w));clear z w Hm HC HX HK x0 x1 d c4 au;go_wp2
     go_ret
     exact ⟨rfl, ah, by rw [← Hz.out]; exact ak.out, al.out⟩
  | @put b s2 u t ht hn hv hs hf ho h2 ho2 hb =>
   clear Hr;obtain rfl : n9 = 2 := an.out.symm;obtain rfl : j = 22 := ht;obtain ⟨i, rfl⟩ : ∃ i : Nat, v = (i : Int) := ⟨v.toNat, by omega⟩;have bz := Lh hf;clear hf;dsimp only at hn hv hb;have Hn := Lh hn;have Hv := Lh hv;have Hs := Lh hs;have Hb := Lh hb;clear hn hv hs hb;rw [ho] at d;replace d : Wa.cell? ⟨L.M, 10, none⟩ = some (.bool false) := d;clear ho;obtain ⟨q1, ai, ac⟩ := XB a0.out (i := 1) (k := b) rfl;have y : ∃ af, some kd = some af ∧ Wa.cell? (af.add 1) = some (.int .i64 (q1 : Int)) := QR (l := QU _) HK.out.1 (by simp [QU, ai]);obtain ⟨af, ae, y⟩ := y;injection ae with ae;subst ae;have aj : Wa.cell? ⟨kd.block, kd.off + 1, none⟩ = some (.int .i64 (q1 : Int)) := by simpa [Addr.add] using y
   have o := Lh (h2 q1 ag Wa ac Hm.out);clear ac ai h2;go_wp2_with fail
   refine o.out.mono ?_;rintro e Wb ⟨rfl, ah, z, w⟩;replace HX := Lh (HX.out.go HL.out w);replace HK := Lh (HK.out.go HL.out w);replace HC := Lh (HC.out.trans w);clear x0 x1 y aj d Hm o;have Hm := Lh z;have x0 := HX.out.2.cellv (i := 0) (v := .int .i64 22) rfl;have x1 := HX.out.2.cellv (i := 1) (v := .int .i64 nn) rfl;have d := z.row.cellv (i := 10) (v := .bool s2.out.isSome) rfl;clear z w;rw [ho2] at d;replace d : Wb.cell? ⟨L.M, 10, none⟩ = some (.bool false) := d;clear ho2;obtain ⟨n, rfl⟩ : ∃ n : Nat, nn = (n : Int) := ⟨nn.toNat, by have := Hn.out; omega⟩;have ax := Hv.out;rw [Lg] at ax;have aw : n < L.ab.length := by rw [HL.out.alen]; exact (Lb.1 ax).1
   obtain ⟨gA, ao⟩ : ∃ g, L.ab[n]? = some g := ⟨_, La aw⟩;obtain ⟨aA, t', ap, a2, au⟩ := HL.out.arrs Wb Hm.out.core.im n gA ao;obtain ⟨ar, am⟩ : ∃ a, s2.arrs[n]? = some a := ⟨_, La (by rw [Hs.out.alen, ← HL.out.alen]; exact aw)⟩;have a1 : s2.arr (n : Int) = ar := by unfold Ms.arr; rw [Lg, am]; rfl
   have ay : (Qx t').toNat = ar.length := by have := Hs.out.len n t' ar a2 am; omega
   have a5 := Hm.out.core.arrs n gA ar ao am;rw [ay] at au;have c4 := Hm.out.row.cellv (i := 4) (v := .slice L.aa L.ab.length L.acap) rfl;rw [ap] at c4;have bw : (n : Int) < (L.ab.length : Int) := by omega
   have a3 := Lh a1;have bt := Lh ao;have bs := Lh am;clear ax aw ap a2 ay a1 ao am;have hb := Hb.out;rw [a3.out] at hb;have bj : i < ar.length := by omega
   have dm : (i : Int) < (ar.length : Int) := by omega
   have dk : ¬ (i : Int) < 0 := by omega
   have cf := Lh bj;clear hb a5 bj;go_wp2_with fail
   go_quiet (fail)
   have bb : RChg L ah Wb ah (Wb.drewN nq) := .below ⟨rfl, rfl, rfl, Nat.le_refl _, fun _ _ => rfl⟩;replace c4 : (Wb.drewN nq).cell? _ = _ := c4;replace au : (Wb.drewN nq).cell? _ = _ := au;replace x1 : (Wb.drewN nq).cell? _ = _ := x1;replace Hm := Lh (Hm.out.drew HL.out nq);replace HX := Lh (HX.out.go HL.out bb);replace HC := Lh (HC.out.trans bb);clear bb x0 d HK;generalize Wb.drewN nq = Wq at *;go_wp2_with fail
   refine QM 11 (by kernel_rfl) (by kernel_rfl) ?_;simp only [L0, LE, Ly, L8];have a7 : ∀ a u, Wq.cell? a = some u → Wq.drew.cell? a = some u := fun _ _ h => h
   replace c4 := a7 _ _ c4;replace x1 := a7 _ _ x1;replace au := a7 _ _ au;have bb : RChg L ah Wq ah Wq.drew := .below ⟨rfl, rfl, rfl, Nat.le_refl _, fun _ _ => rfl⟩;replace Hm : Hid (RR L s2 ah Wq.drew) := Lh (Hm.out.drew HL.out 1);replace HX := Lh (HX.out.go HL.out bb);replace HC := Lh (HC.out.trans bb);clear a7 bb;generalize Wq.drew = Wd at *
   repeat still_step
   refine wpStill_nil ?_;obtain ⟨bp, a6⟩ := Hm.out.setArr HL.out n i u ar gA bt.out bs.out;have az := EQ (Qi ar).toArray i (.int .i64 u) (by simp [Qi]; exact cf.out);go_wp2_with (refine Qv _ _ _ rfl ?_)
   refine Stop.to ?_;refine Qs rfl 3 _ _ rfl gA i rfl _ rfl [.int .i64 u] rfl 3 _ _ bp (by kernel_rfl) (by have := cf.out; simp [Qi]; omega) (by simp [Value.oneCell']) az ?_;intro We re oe;obtain ⟨bl, a9⟩ := a6 We oe re;replace HX := Lh (HX.out.go HL.out a9);have x1 := HX.out.2.cellv (i := 1) (v := .int .i64 (n : Int)) rfl;have ak := Lh bl;have al := Lh (HC.out.trans a9);clear bl a9 re oe a6 bp az c4 au HC Hm;go_wp2_with fail
   refine Calls.mono (ES L HL.out _ (s2.seta (n : Int) (i : Int) u) ah (n : Int) (i : Int) u We ak.out rfl (by simp only [Ms.seta, a3.out]; rfl) rfl rfl rfl bz.out rfl) ?_;rintro e Wf ⟨⟨u', rfl⟩, b9, bm, bh⟩;have b2 := Lh bm;have b0 := Lh (al.out.trans bh);clear bm bh ak al HX x1;go_wp2
   go_ret
   exact ⟨rfl, b9, b2.out, b0.out⟩
end Go.Proofs.YtdcmppdhdcjpfaaGreat
