/- Lemmas for VerdictTellsP. -/
import Derived.Test.YtdcmppdhdcjpfaaGreatZz25
import Derived.Test.YtdcmppdhdcjpfaaGreatZz2
import Derived.Test.YtdcmppdhdcjpfaaGreatZz1
set_option linter.unusedVariables false
set_option linter.unusedSimpArgs false
set_option maxRecDepth 100000
set_option maxHeartbeats 16000000
namespace Go.Proofs.YtdcmppdhdcjpfaaGreat
open Go.RowKit Go.Deep
theorem Ve (L : Lay) (hL : LOk L) (m : Mm) (n : Nat) (i : Int) (W : World) (h : MRx L m W) (hs : LenS L.p.V m.s) (hn : n < m.s.arrs.length) (hb : i < 0 ∨ ((m.s.arr (n : Int)).length : Int) ≤ i) : Calls Tryz.prog 123 #[.pointer (some ⟨L.M, 0, none⟩), .int .i64 (n : Int), .int .i64 i] W fun e W' => e = .returned (.pointer none) ∧ MRx L ⟨m.s.stop 2 0, m.stack⟩ W' ∧ Only L.M W W' := by
 obtain ⟨fs, sv, ev, l, q⟩ := h;have o := ED L hL m 2 0 W ⟨fs, sv, ev, l, q⟩;obtain ⟨g, y⟩ : ∃ g, L.ab[n]? = some g := ⟨_, La (by rw [hL.alen, ← hs.alen]; exact hn)⟩;obtain ⟨ad, t, k, z, hc⟩ := hL.arrs W q.core.im n g y;have x := hs.arr_len (n := (n : Int)) (t := t) (by rw [Lg]; exact z);have b : (m.s.arr (n : Int)).length = (Qx t).toNat := by omega
 rw [b] at hb;have af : (n : Int) < (L.ab.length : Int) := by have := (Lb.1 y).1; omega
 have c5 := q.row.cellv (i := 5) (v := .slice L.aa L.ab.length L.acap) rfl;rw [k] at c5;have c := Lh o;clear o q hL hs y z x b hn l k;by_cases h0 : i < 0
 · clear hb;go_enter Tryz.func123, Tryz.ntmps123
   go_wp2_with fail
   refine c.out.mono ?_;rintro e W2 ⟨⟨u, rfl⟩, j, d⟩;have r := Lh d;have w := Lh j;clear j d;go_wp2
   go_ret
   exact ⟨rfl, w.out, r.out⟩
 · have ac : 0 ≤ i := by omega
   have ae : ((Qx t).toNat : Int) ≤ i := by omega
   clear hb h0;generalize (Qx t).toNat = sz at *;go_enter Tryz.func123, Tryz.ntmps123
   go_wp2_with fail
   refine c.out.mono ?_;rintro e W2 ⟨⟨u, rfl⟩, j, d⟩;have r := Lh d;have w := Lh j;clear j d;go_wp2
   go_ret
   exact ⟨rfl, w.out, r.out⟩
theorem Aa2 (L : Lay) (hL : LOk L) (m : Mm) (n i : Nat) (g : Nat) (W : World) (h : MRx L m W) (hs : LenS L.p.V m.s) (hg : L.ab[n]? = some g) (hb : i < (m.s.arr (n : Int)).length) : Calls Tryz.prog 123 #[.pointer (some ⟨L.M, 0, none⟩), .int .i64 (n : Int), .int .i64 (i : Int)] W fun e W' => e = .returned (.pointer (some ⟨g, i, none⟩)) ∧ W = W' := by
 obtain ⟨w, y, ev, j, k⟩ := h;obtain ⟨u, t, c, l, x⟩ := hL.arrs W k.core.im n g hg;have d := hs.arr_len (n := (n : Int)) (t := t) (by rw [Lg]; exact l);have b : (m.s.arr (n : Int)).length = (Qx t).toNat := by omega
 rw [b] at hb;have r : (n : Int) < (L.ab.length : Int) := by have := (Lb.1 hg).1; omega
 have o := k.row.cellv (i := 5) (v := .slice L.aa L.ab.length L.acap) rfl;rw [c] at o;clear k hL hs hg l d b j c;generalize (Qx t).toNat = sz at *;have q : (i : Int) < (sz : Int) := by omega
 clear hb;go_enter Tryz.func123, Tryz.ntmps123
 go_wp2
 go_ret
 exact ⟨rfl, rfl⟩
theorem Ac0 (M : Nat) (v at_ x : Int) (W : World) : Calls Tryz.prog 124 #[.pointer (some ⟨M, 0, none⟩), .pointer none, .int .i64 v, .int .i64 at_, .int .i64 x] W fun e W' => (∃ u, e = .returned u) ∧ W = W' := by
 go_enter Tryz.func124, Tryz.ntmps124
 go_wp2
 go_end0
 exact ⟨⟨_, rfl⟩, rfl⟩
theorem Afb : (Tryz.prog.info? 189).map (fun i => (i.zero, i.size, i.bytes)) = some (some (.agg #[.int .i64 0, .int .i64 0, .int .i64 0]), 3, 24) := by kernel_rfl
theorem Ua (e : EvV) : ∀ u ∈ e.cells, u.oneCell' = true := by
 intro u b;simp only [EvV.cells, Lv, L5, or_false] at b;rcases b with rfl | rfl | rfl <;> rfl
theorem EQ (cur : Array Value) (k : Nat) (u : Value) (hk : k < cur.size) : ZI cur k [u] = cur.setIfInBounds k u := by
 unfold ZI;apply Array.toList_inj.1;simp only [LV, ND];rw [List.set_eq_take_append_cons_drop, if_pos (by simpa using hk)]; simp
theorem Aa1 (L : Lay) (hL : LOk L) (s1 s2 : Ms) (fs : List FrV) (sv ev : Value) (g k : Nat) (cur : Array Value) (v at_ x : Int) (W : World) (hg : Row W g 3 cur) (hk : k < cur.size)
 (hst : ∀ W1, Only g W W1 → Row W1 g 3 (cur.setIfInBounds k (.int .i64 x)) → MR L s1 fs sv ev W1 ∧ Chg L W W1)
 (h1 : s2.vals = s1.vals) (h2 : s2.arrs = s1.arrs) (h3 : s2.steps = s1.steps) (h4 : s2.fuel = s1.fuel) (h5 : s2.evs = s1.evs ++ [⟨v, at_, x⟩]) (h6 : s1.evs.length + fs.length < s1.steps) (h7 : s2.out = s1.out) :
 Calls Tryz.prog 124 #[.pointer (some ⟨L.M, 0, none⟩), .pointer (some ⟨g, k, none⟩), .int .i64 v, .int .i64 at_, .int .i64 x] W fun e W' => (∃ u, e = .returned u) ∧ (∃ sv ev, MR L s2 fs sv ev W') ∧ Chg L W W' := by
 obtain ⟨i0, ab, ac, ad, ae⟩ := info_parts Afb;have m := Lh hst;have p := Lh hL;have Hg := Lh hg;have j := Lh (EQ cur k (.int .i64 x) hk);have H1 := Lh h1;have H2 := Lh h2;have r := Lh h3;have H4 := Lh h4;have H5 := Lh h5;have H7 := Lh h7;have hF := hL.F;clear hst hL hg h1 h2 h3 h4 h5 h7;go_enter Tryz.func124, Tryz.ntmps124
 go_wp2_with (refine Qv _ _ _ rfl ?_)
 refine Stop.to ?_;refine Qs rfl 3 _ _ rfl g k rfl _ rfl [.int .i64 x] rfl 3 _ _ Hg.out (by kernel_rfl) (by simp; omega) (by simp [Value.oneCell']) j.out ?_;intro W1 r1 o1;obtain ⟨c, g1⟩ := m.out W1 o1 r1;have l := Lh c;have G1 := Lh g1;have y := c.row.cellv (i := 11) (v := ev) rfl;have o := c.core.sum;have aa := c.core.size;have af : s1.evs.length ≤ 20001 := by omega
 have ha := c.core.evs.alloc (.cells (EvV.cells ⟨v, at_, x⟩).toArray 189);have s := Lh ha;clear c g1 r1 o1 ha o m Hg j hk;go_wp2_with (at_builtin; refine wpList_append_own_at _ rfl (.tmp 20) (.tmp 25) 38 rfl L.b1 189 i0 _ 3 24 Tryz.underlying38 ab ac ad ae rfl (by decide) ev s1.evs.length (s1.evs.flatMap EvV.cells) rfl s.out ⟨W1.heap.size, 0, none⟩ 1 1 (EvV.cells ⟨v, at_, x⟩) rfl rfl (Jj _ _ _) (Ua _) (by unfold maxLen; omega) (by omega) (by simp; omega) ?_)
 intro d W3 h hg _ z;have w : Below W1.heap.size W1 (W1.alloc (.cells (EvV.cells ⟨v, at_, x⟩).toArray 189)) := (Below.refl _ _).alloc (Nat.le_refl _) _;have b := l.out.below p.out w;have k3 := b.core.grownEvs (s' := s2) p.out hg (by rw [H5.out]; simpa using h) H1.out H2.out r.out H4.out (by rw [H5.out, r.out]; simp; omega);have r3 := b.row.grown hg (QC b.core.evs b.row (by decide));have s3 := QY b.stack hg (QX b.stack b.core.evs (by decide));have g3 := (G1.out.trans (Chg.below (L := L) (w.mono aa))).trans (.grown hg (by simp; omega) (fun k e => QH s.out e));have n := ZU h;have K3 := Lh k3;have R3 := Lh r3;have t := Lh s3;have G3 := Lh g3;clear h hg z w b k3 r3 s3 g3 s l G1 y;go_wp2_with (refine Qv _ _ _ rfl ?_)
 refine Stop.to ?_;refine Qs rfl 38 _ _ rfl L.M 11 rfl _ rfl [d] (by cases d <;> first | rfl | cases n) 125 _ (L.cells s2 sv d) R3.out (by kernel_rfl) (by show 11 + 1 ≤ 14; omega) (by simpa using n) (by unfold Lay.cells; rw [r.out, H7.out]; rfl) ?_
 intro W4 r4 q;have m4 : MR L s2 fs sv d W4 := ⟨r4, QA t.out q (fun e => by have := QH t.out e; have := p.out.lt; omega), K3.out.only p.out q⟩;have M4 := Lh m4;have G4 := Lh (G3.out.trans (.only q (.inr (.inl rfl))));clear m4 r4 q K3 R3 t G3;go_wp2
 go_end0
 exact ⟨⟨_, rfl⟩, ⟨sv, d, M4.out⟩, G4.out⟩
structure TopF (L : Lay) (W : World) (M SB o : Nat) (q : Nat) (kid : Nat) (fv : Value) (tag : Int) (kd : Addr) (nk : Nat) (pos : List Nat) : Prop where
 c3 : ∃ ka, L.ka = some ka ∧ W.cell? ⟨L.M, 3, none⟩ = some (.slice (some ka) L.p.body.length L.kcap) ∧ ∃ A cap, W.cell? (ka.add q) = some (.slice A nk cap) ∧ (0 < nk → A = some kd)
 c2 : ∃ bd, W.cell? ⟨L.M, 2, none⟩ = some (.slice (some bd) L.p.body.length L.p.bcap) ∧ W.cell? (bd.add (q * 2)) = some (.int .i64 tag)
 a0 : W.cell? ⟨SB, o, none⟩ = some (.int .i64 (q : Int))
 a1 : W.cell? ⟨SB, o + 1, none⟩ = some (.int .i64 (kid : Int))
 a2 : W.cell? ⟨SB, o + 2, none⟩ = some fv
 ql : (q : Int) < (L.p.body.length : Int)
 kl : (kid : Int) < 1000000
 pl : pos.length = nk
 pc : ∀ (i k : Nat), pos[i]? = some k → W.cell? (kd.add i) = some (.int .i64 (k : Int))
theorem Aj3 {L : Lay} (hL : LOk L) {s : Ms} {x : FrV} {r : List FrV} {sv ev : Value} {W : World} {SB cap : Nat} {cur : Array Value} (hm : MR L s (x :: r) sv ev W) (ht : Top L W x r sv SB cap cur) (hat : At L.p.body x.f.at_ x.f.t) (hk : x.f.kid < 1000000) :
 ∃ kd, TopF L W L.M SB (r.length * 3) x.f.at_ x.f.kid x.v x.f.t.root.tag kd x.f.t.kids.length (Q5 (x.f.at_ + 1) x.f.t.kids) := by
 obtain ⟨ka, A, kcap, d, q, e⟩ := hL.kids W hm.core.im x.f.at_ x.f.t hat;obtain ⟨h, j, m⟩ := Z9 (hL.pok W hm.core.im).brd hat.root;have c := m 0 (.int .i64 x.f.t.root.tag) rfl;rw [show (h.add (x.f.at_ * 2)).add 0 = h.add (x.f.at_ * 2) by rw [JU]; simp] at c;have w : W.cell? ⟨L.M, 3, none⟩ = some (.slice L.ka L.p.body.length L.kcap) := hm.row.cellv rfl;have u : W.cell? ⟨L.M, 2, none⟩ = some (.slice L.p.ba L.p.body.length L.p.bcap) := hm.row.cellv rfl;rw [d] at w;rw [j] at u;have g : (Q5 (x.f.at_ + 1) x.f.t.kids).length = x.f.t.kids.length := ZP _ _;refine ⟨A.getD ⟨0, 0, none⟩, ⟨ka, d, w, A, kcap, q, fun h0 => ?_⟩, ⟨h, u, c⟩, by have := ht.cell 0 _ rfl; simpa using this, ht.cell 1 _ rfl, ht.cell 2 _ rfl, by have := hat.lt; omega, by omega, g, fun i k n => ?_⟩
 · obtain ⟨k, o⟩ : ∃ k, (Q5 (x.f.at_ + 1) x.f.t.kids)[0]? = some k := ⟨_, La (by omega)⟩;obtain ⟨y, b, _⟩ := QR (l := QU (Q5 (x.f.at_ + 1) x.f.t.kids)) e (k := 0) (x := (k : Int)) (by simp [QU, o]);rw [b]; rfl
 · obtain ⟨y, b, z⟩ := QR (l := QU (Q5 (x.f.at_ + 1) x.f.t.kids)) e (k := i) (x := (k : Int)) (by simp [QU, n]);rw [b]; exact z
theorem Aet (L : Lay) (SB o q kid : Nat) (fv : Value) (tag : Int) (kd : Addr) (nk : Nat) (pos : List Nat) (k : Nat) (W : World) (h : TopF L W L.M SB o q kid fv tag kd nk pos) (hkid : kid < nk) (hk : pos[kid]? = some k)
 (h1 : ¬ (tag = 23 ∧ 1 ≤ kid)) (h2 : kid = 1 → Xy tag → ∃ vd n cap v, fv = .slice (some vd) (n + 1) cap ∧ W.cell? vd = some (.int .i64 v) ∧ ¬ Uw tag v) :
 Calls Tryz.prog 61 #[.pointer (some ⟨L.M, 0, none⟩), .pointer (some ⟨SB, o, none⟩)] W fun e W' => ∃ n, e = .returned (.tuple #[.int .i64 (k : Int), .bool true]) ∧ W' = W.drewN n := by
 obtain ⟨⟨ka, p, c3, A, t, ck, r⟩, ⟨bd, c2, ct⟩, a0, a1, a2, ql, kl, pl, u⟩ := h;obtain rfl := r (by omega);have w := u kid k hk;have ab : (kid : Int) < (nk : Int) := by omega
 clear u hk p pl r;by_cases c : kid = 1
 · by_cases b : Xy tag
   · obtain ⟨vd, n, cap, v, rfl, cv, s⟩ := h2 c b;have g : (tag = 18 ∧ v ≠ 0) ∨ (tag = 19 ∧ v ≠ 1) ∨ (tag = 24 ∧ v ≠ 0) := by unfold Xy at b; unfold Uw at s; omega
     have l : ((kid : Int) == 1) = true := by simp; omega
     clear h1 h2 b s hkid c;rcases g with ⟨rfl, i⟩ | ⟨rfl, i⟩ | ⟨rfl, i⟩
     · have ev : (v == 0) = false := by simpa using i
       clear i;go_enter Tryz.func61, Tryz.ntmps61
       go_wp2_with fail
       go_quiet (fail)
       go_wp2_with fail
       go_quiet (fail)
       go_wp2
       go_ret2
       exact ⟨_, rfl, rfl⟩
     · have ev : (v == 1) = false := by simpa using i
       clear i;go_enter Tryz.func61, Tryz.ntmps61
       go_wp2_with fail
       go_quiet (fail)
       go_wp2_with fail
       go_quiet (fail)
       go_wp2
       go_ret2
       exact ⟨_, rfl, rfl⟩
     · have ev : (v == 0) = false := by simpa using i
       clear i;go_enter Tryz.func61, Tryz.ntmps61
       go_wp2_with fail
       go_quiet (fail)
       go_wp2_with fail
       go_quiet (fail)
       go_wp2
       go_ret2
       exact ⟨_, rfl, rfl⟩
   · have d : tag ≠ 18 ∧ tag ≠ 19 ∧ tag ≠ 24 ∧ tag ≠ 23 := by unfold Xy at b; omega
     have x : (tag == 18) = false := by simpa using d.1
     have y : (tag == 19) = false := by simpa using d.2.1
     have z : (tag == 24) = false := by simpa using d.2.2.1
     have m : (tag == 23) = false := by simpa using d.2.2.2
     have l : ((kid : Int) == 1) = true := by simp; omega
     clear h1 h2 b d hkid c;go_enter Tryz.func61, Tryz.ntmps61
     go_wp2_with fail
     go_quiet (fail)
     go_wp2_with fail
     go_quiet (fail)
     go_wp2
     go_ret2
     exact ⟨_, rfl, rfl⟩
 · have l : ((kid : Int) == 1) = false := by simp; omega
   by_cases j : tag = 23
   · have eg : decide ((1 : Int) < (kid : Int)) = false := by simp; omega
     have aa : ¬ ((1 : Int) < (kid : Int)) := by omega
     subst j;clear h1 h2 c hkid;go_enter Tryz.func61, Tryz.ntmps61
     go_wp2_with fail
     go_quiet (fail)
     go_wp2_with fail
     go_quiet (fail)
     go_wp2
     go_ret2
     exact ⟨_, rfl, rfl⟩
   · have m : (tag == 23) = false := by simpa using j
     clear h1 h2 c j hkid;go_enter Tryz.func61, Tryz.ntmps61
     go_wp2_with fail
     go_quiet (fail)
     go_wp2_with fail
     go_quiet (fail)
     go_wp2
     go_ret2
     exact ⟨_, rfl, rfl⟩
theorem AcY (L : Lay) (SB o q kid : Nat) (fv : Value) (tag : Int) (kd : Addr) (nk : Nat) (pos : List Nat) (i k : Nat) (v : Int) (vd : Addr) (n cap : Nat) (W : World) (h : TopF L W L.M SB o q kid fv tag kd nk pos) (hk : pos[i]? = some k)
 (ht : tag = 23) (h1 : kid = 1) (hf : fv = .slice (some vd) (n + 1) cap) (cv : W.cell? vd = some (.int .i64 v)) (hv : v = 0 ∨ v = 1) (hi : (i : Int) = 2 - v) :
 Calls Tryz.prog 61 #[.pointer (some ⟨L.M, 0, none⟩), .pointer (some ⟨SB, o, none⟩)] W fun e W' => ∃ n, e = .returned (.tuple #[.int .i64 (k : Int), .bool true]) ∧ W' = W.drewN n := by
 subst ht hf;obtain ⟨⟨ka, d, y, A, j, z, g⟩, ⟨w, x, ct⟩, s, t, u, ql, kl, r, l⟩ := h;have c : i < nk := by have := (Lb.1 hk).1; omega
 obtain rfl := g (by omega);have b := l i k hk;have p : (i : Int) < (nk : Int) := by omega
 have m : ((kid : Int) == 1) = true := by simp; omega
 have eg : decide ((1 : Int) < (kid : Int)) = false := by simp; omega
 clear l hk d r g h1 c;rcases hv with rfl | rfl
 · obtain rfl : i = 2 := by omega
   replace b : W.cell? ⟨kd.block, kd.off + 2, none⟩ = some (.int .i64 (k : Int)) := b;clear hi;go_enter Tryz.func61, Tryz.ntmps61
   go_wp2_with fail
   go_quiet (fail)
   go_wp2_with fail
   go_quiet (fail)
   go_wp2
   go_ret2
   exact ⟨_, rfl, rfl⟩
 · obtain rfl : i = 1 := by omega
   replace b : W.cell? ⟨kd.block, kd.off + 1, none⟩ = some (.int .i64 (k : Int)) := b;clear hi;go_enter Tryz.func61, Tryz.ntmps61
   go_wp2_with fail
   go_quiet (fail)
   go_wp2_with fail
   go_quiet (fail)
   go_wp2
   go_ret2
   exact ⟨_, rfl, rfl⟩
theorem AcZ (L : Lay) (SB o q kid : Nat) (fv : Value) (tag : Int) (kd : Addr) (nk : Nat) (pos : List Nat) (W : World) (h : TopF L W L.M SB o q kid fv tag kd nk pos)
 (h0 : (kid = 1 ∧ ∃ vd n cap v, fv = .slice (some vd) (n + 1) cap ∧ W.cell? vd = some (.int .i64 v) ∧ Uw tag v) ∨ (¬ (kid = 1 ∧ Xy tag) ∧ ((tag = 23 ∧ 1 < kid) ∨ (tag ≠ 23 ∧ nk ≤ kid)))) :
 Calls Tryz.prog 61 #[.pointer (some ⟨L.M, 0, none⟩), .pointer (some ⟨SB, o, none⟩)] W fun e W' => ∃ n, e = .returned (.tuple #[.int .i64 0, .bool false]) ∧ W' = W.drewN n := by
 obtain ⟨⟨ka, p, c3, A, t, ck, hA⟩, ⟨bd, c2, ct⟩, a0, r, a2, ql, u, pl, pc⟩ := h;clear pc p pl hA;rcases h0 with ⟨d, vd, n, cap, v, rfl, cv, s⟩ | ⟨k, h0⟩
 · have b : ((kid : Int) == 1) = true := by simp; omega
   have c : (tag = 18 ∧ v = 0) ∨ (tag = 19 ∧ v = 1) ∨ (tag = 24 ∧ v = 0) := by unfold Uw at s; omega
   clear s d;rcases c with ⟨rfl, rfl⟩ | ⟨rfl, rfl⟩ | ⟨rfl, rfl⟩
   · go_enter Tryz.func61, Tryz.ntmps61
     go_wp2_with fail
     go_quiet (fail)
     go_wp2_with fail
     go_quiet (fail)
     go_wp2
     go_ret2
     exact ⟨_, rfl, rfl⟩
   · go_enter Tryz.func61, Tryz.ntmps61
     go_wp2_with fail
     go_quiet (fail)
     go_wp2_with fail
     go_quiet (fail)
     go_wp2
     go_ret2
     exact ⟨_, rfl, rfl⟩
   · go_enter Tryz.func61, Tryz.ntmps61
     go_wp2_with fail
     go_quiet (fail)
     go_wp2_with fail
     go_quiet (fail)
     go_wp2
     go_ret2
     exact ⟨_, rfl, rfl⟩
 · rcases h0 with ⟨rfl, m⟩ | ⟨i, m⟩
   · have b : ((kid : Int) == 1) = false := by simp; omega
     have eg : decide ((1 : Int) < (kid : Int)) = true := by simp; omega
     have aa : ((1 : Int) < (kid : Int)) := by omega
     clear k;go_enter Tryz.func61, Tryz.ntmps61
     go_wp2_with fail
     go_quiet (fail)
     go_wp2_with fail
     go_quiet (fail)
     go_wp2
     go_ret2
     exact ⟨_, rfl, rfl⟩
   · have y : (tag == 23) = false := by simpa using i
     have j : decide ((kid : Int) < (nk : Int)) = false := by simp; omega
     by_cases d : kid = 1
     · have g : tag ≠ 18 ∧ tag ≠ 19 ∧ tag ≠ 24 := by unfold Xy at k; omega
       have w : (tag == 18) = false := by simpa using g.1
       have x : (tag == 19) = false := by simpa using g.2.1
       have z : (tag == 24) = false := by simpa using g.2.2
       have b : ((kid : Int) == 1) = true := by simp; omega
       clear k g m d i;generalize (kid : Int) = kI at r u b j;have l : (kI < (nk : Int)) = False := by simpa using j
       clear j;go_enter Tryz.func61, Tryz.ntmps61
       go_wp2_with fail
       go_quiet (fail)
       go_wp2_with fail
       go_quiet (fail)
       go_wp2
       go_ret2
       exact ⟨_, rfl, rfl⟩
     · have b : ((kid : Int) == 1) = false := by simp; omega
       clear k m d i;generalize (kid : Int) = kI at r u b j;have l : (kI < (nk : Int)) = False := by simpa using j
       clear j;go_enter Tryz.func61, Tryz.ntmps61
       go_wp2_with fail
       go_quiet (fail)
       go_wp2_with fail
       go_quiet (fail)
       go_wp2
       go_ret2
       exact ⟨_, rfl, rfl⟩
theorem Abl {P : Program} {ops : Array Oper} {S : World → Prop} {a : Act} {o : Oper} (hw : Region.wanted o (yielded ops a.tmps) = true) (ty : TypeId) (x : Operand) (ho : o.op = .load ty x) (ad : Addr) (hx : a.eval x = .pointer (some ad)) (cs : List Value) (d : TypeDesc)
 (hr : ∀ W, S W → ∀ (j : Nat) (v : Value), cs[j]? = some v → W.cell? (ad.add j) = some v) (hu : P.underlying ty = some d) (hd : (match d with | .struct _ | .array _ _ => true | _ => false) = true) (hi : (P.info? ty).map (·.size) = some cs.length) : YieldsIf P ops S o (.agg cs.toArray) a :=
 Qd hw (fun W hW => by simp only [execOp, ho, hx, Instr.loadAt, Instr.sureAddr, Sem.run_bind, Sem.run_pure, Result.andThen_ok, J7 W ad ty cs d (hr W hW) hu hd hi])
section
variable {L : Lay} {s : Ms} {x : FrV} {rs : List FrV} {sv ev : Value} {W W' : World} {SB cap : Nat} {cur : Array Value}
theorem MC.drop (h : MC L s (x :: rs) ev W) : MC L s rs ev W :=
 ⟨h.evs, h.vals, h.arrs, fun y hy => h.fr y (List.mem_cons_of_mem _ hy), (Nj.1 h.dist).2, h.im, h.size, h.sum, by have := h.few; simp at this; omega⟩
theorem MR.pop (h : MR L s (x :: rs) sv ev W) (hL : LOk L) (ht : Top L W x rs sv SB cap cur) (o : Only L.M W W') (hr : Row W' L.M 125 (L.cells s (.slice (some ⟨SB, 0, none⟩) rs.length cap) ev)) : MR L s rs (.slice (some ⟨SB, 0, none⟩) rs.length cap) ev W' :=
 ⟨hr, QA ht.pop o (fun e => by have := QH ht.pop e; have := hL.lt; omega), (h.core.only hL o).drop⟩
theorem MR.drew1 (h : MR L s rs sv ev W) (hL : LOk L) : MR L s rs sv ev W.drew := h.below hL ⟨rfl, rfl, rfl, Nat.le_refl _, fun _ _ => rfl⟩
theorem Top.drew1 (h : Top L W x rs sv SB cap cur) : Top L W.drew x rs sv SB cap cur := h.below ⟨rfl, rfl, rfl, Nat.le_refl _, fun _ _ => rfl⟩
theorem Chg.drew1 (h : Chg L W W') : Chg L W W'.drew := h.trans ⟨rfl, rfl, rfl, Nat.le_refl _, fun _ _ _ _ _ => rfl⟩
theorem MR.few1 (h : MR L s (x :: rs) sv ev W) : s.evs.length + rs.length < s.steps := by have := h.core.few; simp at this; omega
theorem MR.setVal (h : MR L s rs sv ev W) (hL : LOk L) (n : Nat) (v : Int) (hn : n < s.vals.length) : ∃ g cap cur, L.vv = .slice (some ⟨g, 0, none⟩) s.vals.length cap ∧ Row W g 3 cur ∧ n < cur.size ∧ ∀ W1, Only g W W1 → Row W1 g 3 (cur.setIfInBounds n (.int .i64 v)) → MR L { s with vals := s.vals.set n v } rs sv ev W1 ∧ Chg L W W1 := by
 rcases h.core.vals.2 with ⟨_, q⟩ | ⟨g, cap, cur, j, t, x, w, z, d, ht⟩
 · have := h.core.vals.1; rw [q] at this; simp [Qi] at this; omega
 · have b : L.vv.ownBlock = some g := by rw [j]; rfl
   refine ⟨g, cap, cur, j, x, by omega, fun W1 o r1 => ?_⟩;have c := hL.vlt g b;have k : ∀ {e : TypeId} {size m : Nat} {u : Value} {xs : List Value}, W.ownsRow L.b1 e size u m xs → W1.ownsRow L.b1 e size u m xs := fun l => QA l o (fun e => by have := QH l e; omega)
   refine ⟨⟨h.row.only o (fun e => c.2.1 e.symm), k h.stack, ⟨k h.core.evs, ⟨by have := h.core.vals.1; simp [Qi] at this ⊢, .inr ⟨g, cap, _, by simpa using j, t, r1, by simpa using w, z, by simpa using d, ?_⟩⟩, ?_, fun y hy => k (h.core.fr y hy), h.core.dist, hL.im _ _ h.core.im (.only o (.inr (.inr (.inl b)))), by rw [o.size]; exact h.core.size, h.core.sum, h.core.few⟩⟩, .only o (.inr (.inr (.inl b)))⟩
   · simp only [ND, LK];rw [List.take_set, ht];simp [Qi, List.map_set]
   · intro i p a hi r;exact (h.core.arrs i p a hi r).only o (fun e => c.2.2 (by subst e; exact Lf hi))
theorem MR.setArr (h : MR L s rs sv ev W) (hL : LOk L) (n i : Nat) (v : Int) (a : List Int) (g : Nat) (hg : L.ab[n]? = some g) (ha : s.arrs[n]? = some a) : Row W g 3 (Qi a).toArray ∧ ∀ W1, Only g W W1 → Row W1 g 3 ((Qi a).toArray.setIfInBounds i (.int .i64 v)) → MR L { s with arrs := s.arrs.set n (a.set i v) } rs sv ev W1 ∧ Chg L W W1 := by
 refine ⟨h.core.arrs n g a hg ha, fun W1 o r1 => ?_⟩;have l := Lf hg;have t := hL.alt g l;have w : ∀ {e : TypeId} {size m : Nat} {u : Value} {xs : List Value}, W.ownsRow L.b1 e size u m xs → W1.ownsRow L.b1 e size u m xs := fun h' => QA h' o (fun e => by have := QH h' e; omega)
 refine ⟨⟨h.row.only o (fun e => t.2 e.symm), w h.stack, ⟨w h.core.evs, QA h.core.vals o (fun e => (hL.vlt g e).2.2 l), ?_, fun y hy => w (h.core.fr y hy), h.core.dist, hL.im _ _ h.core.im (.only o (.inr (.inr (.inr l)))), by rw [o.size]; exact h.core.size, h.core.sum, h.core.few⟩⟩, .only o (.inr (.inr (.inr l)))⟩;intro j g' b k p;by_cases c : j = n
 · subst c;rw [hg] at k; cases k;have r : j < s.arrs.length := (Lb.1 ha).1;simp only [List.getElem?_set_self r, LX] at p;subst p;have : (Qi (a.set i v)).toArray = (Qi a).toArray.setIfInBounds i (.int .i64 v) := by simp [Qi, List.map_set]
   rw [this]; exact r1
 · have q : s.arrs[j]? = some b := by simpa [N9, Ne.symm c] using p
   refine (h.core.arrs j g' b k q).only o (fun e => c ?_);subst e;have h1 := Lb.1 hg;have h2 := Lb.1 k;obtain ⟨l1, x⟩ := h1;obtain ⟨l2, z⟩ := h2;rcases LS j n with d | d | d
   · exact absurd (z.trans x.symm) (Nf.1 hL.and j n l2 l1 d)
   · exact d
   · exact absurd (x.trans z.symm) (Nf.1 hL.and n j l1 l2 d)
end
def Lay.rcells (L : Lay) (s : Ms) (ev : Value) : Array Value :=
 #[.int .i64 L.p.params, .slice L.p.va L.p.V.length L.p.vcap, .slice L.p.ba L.p.body.length L.p.bcap, L.vv, .slice L.aa L.ab.length L.acap, .int .i64 (s.fuel : Int), .int .i64 (s.steps : Int), ev,
  .int .i64 (s.out.getD (0, 0)).1, .int .i64 (s.out.getD (0, 0)).2, .bool s.out.isSome]
structure RChg (L : Lay) (ev : Value) (W : World) (ev' : Value) (W' : World) : Prop where
 os : W'.os = W.os
 tape : W'.tape = W.tape
 output : W'.output = W.output
 size : W.heap.size ≤ W'.heap.size
 block : ∀ k, k < W.heap.size → k ≠ L.M → L.vv.ownBlock ≠ some k → k ∉ L.ab → ev.ownBlock ≠ some k → W'.heap[k]? = W.heap[k]?
 evb : ∀ k, ev'.ownBlock = some k → ev.ownBlock = some k ∨ W.heap.size ≤ k
theorem RChg.refl (L : Lay) (ev : Value) (W : World) : RChg L ev W ev W := ⟨rfl, rfl, rfl, Nat.le_refl _, fun _ _ _ _ _ _ => rfl, fun _ h => .inl h⟩
theorem RChg.trans {L : Lay} {a b c : Value} {A B C : World} (h : RChg L a A b B) (k : RChg L b B c C) : RChg L a A c C :=
 ⟨k.os.trans h.os, k.tape.trans h.tape, k.output.trans h.output, Li h.size k.size, fun i h0 h1 h2 h3 h4 => (k.block i (Ld h0 h.size) h1 h2 h3 (fun e => (h.evb i e).elim h4 (fun e => by omega))).trans (h.block i h0 h1 h2 h3 h4), fun i e => (k.evb i e).elim (fun e => h.evb i e) (fun e => .inr (Li h.size e))⟩
theorem RChg.only {L : Lay} {ev : Value} {A B : World} {g : Nat} (o : Only g A B) (h : g = L.M ∨ L.vv.ownBlock = some g ∨ g ∈ L.ab) : RChg L ev A ev B :=
 ⟨o.os, o.tape, o.output, LG o.size.symm, fun k _ h2 h3 h4 _ => o.block k (fun e => by subst e; rcases h with h | h | h; exact h2 h; exact h3 h; exact h4 h), fun _ h => .inl h⟩
theorem RChg.below {L : Lay} {ev : Value} {A B : World} (b : Below A.heap.size A B) : RChg L ev A ev B := ⟨b.os, b.tape, b.output, b.size, fun k h1 _ _ _ _ => b.block k h1, fun _ h => .inl h⟩
theorem RChg.grown {L : Lay} {ev ev' : Value} {A B : World} (h : A.grownBy B ev.ownBlock) (ha : ∀ k, ev'.ownBlock = some k → ev.ownBlock = some k ∨ A.heap.size ≤ k) : RChg L ev A ev' B :=
 ⟨h.os, h.tape, h.output, h.size, fun k h1 _ _ _ h4 => h.block k h1 (fun e => h4 e.symm), ha⟩
structure Far (L : Lay) (ev : Value) (W : World) (k : Nat) : Prop where
 lo : L.b1 ≤ k
 ev : ev.ownBlock ≠ some k
 lt : k < W.heap.size
theorem Far.go {L : Lay} {ev ev' : Value} {W W' : World} {k : Nat} (h : Far L ev W k) (c : RChg L ev W ev' W') : Far L ev' W' k :=
 ⟨h.lo, fun e => (c.evb k e).elim h.ev (fun e => by have := h.lt; omega), Ld h.lt c.size⟩
theorem Far.same {L : Lay} {ev ev' : Value} {W W' : World} {k : Nat} (h : Far L ev W k) (hL : LOk0 L) (c : RChg L ev W ev' W') : W'.heap[k]? = W.heap[k]? :=
 c.block k h.lt (by have := hL.lt; have := h.lo; omega) (fun e => by have := (hL.vlt k e).1; have := h.lo; omega) (fun e => by have := (hL.alt k e).1; have := h.lo; omega) h.ev
def FRow (L : Lay) (ev : Value) (W : World) (k : Nat) (t : TypeId) (cs : Array Value) : Prop := Far L ev W k ∧ Row W k t cs
theorem FRow.go {L : Lay} {ev ev' : Value} {W W' : World} {k : Nat} {t : TypeId} {cs : Array Value} (h : FRow L ev W k t cs) (hL : LOk0 L) (c : RChg L ev W ev' W') : FRow L ev' W' k t cs := ⟨h.1.go c, (h.1.same hL c).trans h.2⟩
def FRd (L : Lay) (ev : Value) (W : World) (A : Option Addr) (xs : List Value) : Prop := Rd W A xs ∧ ∀ ad, A = some ad → Far L ev W ad.block
theorem FRd.go {L : Lay} {ev ev' : Value} {W W' : World} {A : Option Addr} {xs : List Value} (h : FRd L ev W A xs) (hL : LOk0 L) (c : RChg L ev W ev' W') : FRd L ev' W' A xs := by
 refine ⟨fun j u g => ?_, fun b e => (h.2 b e).go c⟩;obtain ⟨b, e, d⟩ := h.1 j u g;refine ⟨b, e, ?_⟩;have := (h.2 b e).same hL c;simp only [World.cell?, JO] at d ⊢;rw [this]; exact d
structure RR (L : Lay) (s : Ms) (ev : Value) (W : World) : Prop where
 row : Row W L.M 201 (L.rcells s ev)
 core : MC L s [] ev W
structure ROk (L : Lay) : Prop extends LOk0 L where
 pok : ∀ W, L.Im W → L.p.ok W
 arrs : ∀ W, L.Im W → ∀ (i g : Nat), L.ab[i]? = some g → ∃ (ad : Addr) (t : Int), L.aa = some ad ∧ L.p.V[i]? = some t ∧ W.cell? (ad.add i) = some (.slice (some ⟨g, 0, none⟩) (Qx t).toNat (Qx t).toNat)
 alen : L.ab.length = L.p.V.length
instance {L : Lay} : Coe (ROk L) (LOk0 L) := ⟨ROk.toLOk0⟩
section
variable {L : Lay} {s s' : Ms} {ev : Value} {W W' : World}
theorem RR.below (h : RR L s ev W) (hL : LOk0 L) (b : Below W.heap.size W W') : RR L s ev W' := ⟨h.row.below b h.row.lt, h.core.below hL b⟩
theorem RR.drew (h : RR L s ev W) (hL : LOk0 L) (n : Nat) : RR L s ev (W.drewN n) := h.below hL ⟨rfl, rfl, rfl, Nat.le_refl _, fun _ _ => rfl⟩
theorem RR.setM (h : RR L s ev W) (hL : LOk0 L) (o : Only L.M W W') (hr : Row W' L.M 201 (L.rcells s' ev))
 (h1 : s'.vals = s.vals) (h2 : s'.arrs = s.arrs) (h3 : s'.evs = s.evs) (h4 : s'.steps + s'.fuel = L.F) (h5 : s.steps ≤ s'.steps) : RR L s' ev W' :=
 ⟨hr, (h.core.only hL o).state h1 h2 h3 h4 h5⟩
theorem RR.few (h : RR L s ev W) : s.evs.length ≤ s.steps := by have := h.core.few; simpa using this
theorem RR.far_new (h : RR L s ev W) {g : Nat} {W' : World} (hg : W.heap.size ≤ g) (hlt : g < W'.heap.size) : Far L ev W' g :=
 ⟨Li h.core.size hg, fun e => by have := h.core.evs.lt _ e; omega, hlt⟩
end
theorem JR (L : Lay) (hL : LOk0 L) (s : Ms) (ev : Value) (k v : Int) (W : World) (h : RR L s ev W) : Calls Tryz.prog 143 #[.pointer (some ⟨L.M, 0, none⟩), .int .i64 k, .int .i64 v] W fun e W' => e = .returned (.int .i64 0) ∧ RR L (s.stopped k v) ev W' ∧ RChg L ev W ev W' := by
 have d := Lh h;have p := Lh hL;have l := h.row;have b := l.cellv (i := 10) (v := .bool s.out.isSome) rfl;have j : (L.rcells s ev).size = 11 := rfl;clear h hL;cases ho : s.out.isSome
 · rw [ho] at b;have g : Hid (s.stopped k v = s.stop k v) := by show _ = _; unfold Ms.stopped; rw [if_neg (by rw [ho]; simp)]
   clear ho;go_enter Tryz.func143, Tryz.ntmps143
   go_wp2_with (refine Qv _ _ _ rfl ?_)
   refine Stop.to ?_;refine Qs rfl 37 _ _ rfl L.M 8 rfl _ rfl [.int .i64 k, .int .i64 v] rfl 201 _ _ l (by kernel_rfl) (by show 8 + 2 ≤ 11; omega) (by simp [Value.oneCell']) rfl ?_;intro t o m;go_wp2_with (refine Qv _ _ _ rfl ?_)
   refine Stop.to ?_;refine Qs rfl 4 _ _ rfl L.M 10 rfl _ rfl [.bool true] rfl 201 _ (L.rcells (s.stop k v) ev) o (by kernel_rfl) (by show 10 + 1 ≤ 11; omega) (by simp [Value.oneCell']) rfl ?_;intro q r n;have c : Only L.M W q := m.trans n;clear l o m n j b;go_wp2
   go_ret
   exact ⟨rfl, by rw [g.out]; exact d.out.setM p.out c r rfl rfl rfl d.out.core.sum (Nat.le_refl _), .only c (.inl rfl)⟩
 · rw [ho] at b;have g : Hid (s.stopped k v = s) := by show _ = _; unfold Ms.stopped; rw [if_pos ho]
   clear ho;go_enter Tryz.func143, Tryz.ntmps143
   go_wp2
   go_ret
   exact ⟨rfl, by rw [g.out]; exact d.out, .refl _ _ _⟩
theorem ES (L : Lay) (hL : LOk0 L) (s1 s2 : Ms) (ev : Value) (v at_ x : Int) (W : World) (hm : RR L s1 ev W)
 (h1 : s2.vals = s1.vals) (h2 : s2.arrs = s1.arrs) (h3 : s2.steps = s1.steps) (h4 : s2.fuel = s1.fuel) (h5 : s2.evs = s1.evs ++ [⟨v, at_, x⟩]) (h6 : s1.evs.length < s1.steps) (h7 : s2.out = s1.out) :
 Calls Tryz.prog 217 #[.pointer (some ⟨L.M, 0, none⟩), .int .i64 v, .int .i64 at_, .int .i64 x] W fun e W' => (∃ u, e = .returned u) ∧ ∃ ev', RR L s2 ev' W' ∧ RChg L ev W ev' W' := by
 obtain ⟨i0, q, r, s, t⟩ := info_parts Afb;have o := Lh hL;have H1 := Lh h1;have H2 := Lh h2;have n := Lh h3;have z := Lh h4;have H5 := Lh h5;have H7 := Lh h7;have hF := hL.F;have d := Lh hm;have c7 := hm.row.cellv (i := 7) (v := ev) rfl;have l := hm.core.sum;have aa := hm.core.size;have ab : s1.evs.length ≤ 20001 := by omega
 have ha := hm.core.evs.alloc (.cells (EvV.cells ⟨v, at_, x⟩).toArray 189);have HA := Lh ha;clear hL hm h1 h2 h3 h4 h5 h7 ha l;go_enter Tryz.func217, Tryz.ntmps217
 go_wp2_with (at_builtin; refine wpList_append_own_at _ rfl (.tmp 12) (.tmp 17) 38 rfl L.b1 189 i0 _ 3 24 Tryz.underlying38 q r s t rfl (by decide) ev s1.evs.length (s1.evs.flatMap EvV.cells) rfl HA.out ⟨W.heap.size, 0, none⟩ 1 1 (EvV.cells ⟨v, at_, x⟩) rfl rfl (Jj _ _ _) (Ua _) (by unfold maxLen; omega) (by omega) (by simp; omega) ?_)
 intro ev' W3 c m _ g;have p : Below W.heap.size W (W.alloc (.cells (EvV.cells ⟨v, at_, x⟩).toArray 189)) := (Below.refl _ _).alloc (Nat.le_refl _) _;have b := d.out.below o.out p;have k3 := b.core.grownEvs (s' := s2) o.out m (by rw [H5.out]; simpa using c) H1.out H2.out n.out z.out (by rw [H5.out, n.out]; simp; omega);have r3 := b.row.grown m (QC b.core.evs b.row (by decide))
 have g3 : RChg L ev W ev' W3 := (RChg.below p).trans (.grown m (fun k e => by
  rcases g with h | h
  · exact .inl (h ▸ e)
  · rw [h] at e; injection e with e; exact .inr (by simp only [World.alloc, Array.size_push] at *; omega)))
 have j := ZU c;have K3 := Lh k3;have R3 := Lh r3;have y := Lh g3;clear c m g p b k3 r3 g3 HA d c7;go_wp2_with (refine Qv _ _ _ rfl ?_)
 refine Stop.to ?_;refine Qs rfl 38 _ _ rfl L.M 7 rfl _ rfl [ev'] (by cases ev' <;> first | rfl | cases j) 201 _ (L.rcells s2 ev') R3.out (by kernel_rfl) (by show 7 + 1 ≤ 11; omega) (by simpa using j) (by unfold Lay.rcells; rw [n.out, z.out, H7.out]; rfl) ?_
 intro W4 r4 w;have m4 : RR L s2 ev' W4 := ⟨r4, K3.out.only o.out w⟩;have M4 := Lh m4;have G4 := Lh (y.out.trans (RChg.only w (.inl rfl)));clear m4 r4 w K3 R3 y;go_wp2
 go_end0
 exact ⟨⟨_, rfl⟩, ev', M4.out, G4.out⟩
theorem Ki (b : Bool) (w : World) : Calls Tryz.prog 252 #[.bool b] w fun e w' => e = .returned (.int .i64 (tr b)) ∧ w = w' := by
 cases b
 all_goals
  go_enter Tryz.func252, Tryz.ntmps252
  go_wp2
  go_ret
  exact ⟨rfl, rfl⟩
theorem Ahm (M : Nat) (tag a b c : Int) (w : World) (ht : 7 ≤ tag ∧ tag ≤ 17) (hp : Zf tag a b = some c) : Calls Tryz.prog 218 #[.pointer (some ⟨M, 0, none⟩), .int .i64 tag, .int .i64 a, .int .i64 b] w fun e w' => e = .returned (.int .i64 c) ∧ w = w' := by
 have i : tag = 7 ∨ tag = 8 ∨ tag = 9 ∨ tag = 12 ∨ tag = 13 ∨ tag = 14 ∨ tag = 15 ∨ tag = 16 ∨ tag = 17 ∨ tag = 10 ∨ tag = 11 := by omega
 clear ht;rcases i with rfl | rfl | rfl | rfl | rfl | rfl | rfl | rfl | rfl | rfl | rfl
 · have d : wrap64 (a + b) = c := by simpa [Zf] using hp
   subst d; clear hp;go_enter Tryz.func218, Tryz.ntmps218
   go_wp2
   go_ret
   exact ⟨Qo (by first | rfl | simp), rfl⟩
 · have d : wrap64 (a - b) = c := by simpa [Zf] using hp
   subst d; clear hp;go_enter Tryz.func218, Tryz.ntmps218
   go_wp2
   go_ret
   exact ⟨Qo (by first | rfl | simp), rfl⟩
 · have d : wrap64 (a * b) = c := by simpa [Zf] using hp
   subst d; clear hp;go_enter Tryz.func218, Tryz.ntmps218
   go_wp2
   go_ret
   exact ⟨Qo (by first | rfl | simp), rfl⟩
 · have d : tr (decide (a = b)) = c := by simpa [Zf] using hp
   clear hp;go_enter Tryz.func218, Tryz.ntmps218
   go_wp2_with fail
   refine (Ki _ _).mono ?_;rintro e w' ⟨rfl, rfl⟩;go_wp2
   go_ret
   exact ⟨Qo (by rw [← d]; all_goals (first | (congr 1; done) | (congr 1; rw [LL]; simp))), rfl⟩
 · have d : tr (decide (a ≠ b)) = c := by simpa [Zf] using hp
   clear hp;go_enter Tryz.func218, Tryz.ntmps218
   go_wp2_with fail
   refine (Ki _ _).mono ?_;rintro e w' ⟨rfl, rfl⟩;go_wp2
   go_ret
   exact ⟨Qo (by rw [← d]; all_goals (first | (congr 1; done) | (congr 1; rw [LL]; simp))), rfl⟩
 · have d : tr (decide (a < b)) = c := by simpa [Zf] using hp
   clear hp;go_enter Tryz.func218, Tryz.ntmps218
   go_wp2_with fail
   refine (Ki _ _).mono ?_;rintro e w' ⟨rfl, rfl⟩;go_wp2
   go_ret
   exact ⟨Qo (by rw [← d]; all_goals (first | (congr 1; done) | (congr 1; rw [LL]; simp))), rfl⟩
 · have d : tr (decide (a ≤ b)) = c := by simpa [Zf] using hp
   clear hp;go_enter Tryz.func218, Tryz.ntmps218
   go_wp2_with fail
   refine (Ki _ _).mono ?_;rintro e w' ⟨rfl, rfl⟩;go_wp2
   go_ret
   exact ⟨Qo (by rw [← d]; all_goals (first | (congr 1; done) | (congr 1; rw [LL]; simp))), rfl⟩
 · have d : tr (decide (b < a)) = c := by simpa [Zf] using hp
   clear hp;go_enter Tryz.func218, Tryz.ntmps218
   go_wp2_with fail
   refine (Ki _ _).mono ?_;rintro e w' ⟨rfl, rfl⟩;go_wp2
   go_ret
   exact ⟨Qo (by rw [← d]; all_goals (first | (congr 1; done) | (congr 1; rw [LL]; simp))), rfl⟩
 · have d : tr (decide (b ≤ a)) = c := by simpa [Zf] using hp
   clear hp;go_enter Tryz.func218, Tryz.ntmps218
   go_wp2_with fail
   refine (Ki _ _).mono ?_;rintro e w' ⟨rfl, rfl⟩;go_wp2
   go_ret
   exact ⟨Qo (by rw [← d]; all_goals (first | (congr 1; done) | (congr 1; rw [LL]; simp))), rfl⟩
 · by_cases g : b = 0
   · simp [Zf, g] at hp
   have d : wrap64 (a.tdiv b) = c := by simpa [Zf, g] using hp
   subst d; clear hp;by_cases h : b = -1
   · subst h;go_enter Tryz.func218, Tryz.ntmps218
     go_wp2
     go_ret
     exact ⟨Qo (by first | rfl | simp), rfl⟩
   · go_enter Tryz.func218, Tryz.ntmps218
     go_wp2
     go_ret
     exact ⟨Qo (by first | rfl | simp), rfl⟩
 · by_cases g : b = 0
   · simp [Zf, g] at hp
   have d : a.tmod b = c := by simpa [Zf, g] using hp
   subst d; clear hp;by_cases h : b = -1
   · subst h;go_enter Tryz.func218, Tryz.ntmps218
     go_wp2
     go_ret
     exact ⟨Qo (by first | rfl | simp), rfl⟩
   · go_enter Tryz.func218, Tryz.ntmps218
     go_wp2
     go_ret
     exact ⟨Qo (by first | rfl | simp), rfl⟩
theorem AeF (L : Lay) (hL : LOk0 L) (s : Ms) (ev : Value) (tag a b : Int) (W : World) (h : RR L s ev W) (hp : Zf tag a b = none) : Calls Tryz.prog 218 #[.pointer (some ⟨L.M, 0, none⟩), .int .i64 tag, .int .i64 a, .int .i64 b] W fun e W' => e = .returned (.int .i64 0) ∧ RR L (s.stopped 1 0) ev W' ∧ RChg L ev W ev W' := by
 have c := Lh (JR L hL s ev 1 0 W h)
 have k : b = 0 ∧ (tag = 10 ∨ tag = 11) := by
  unfold Zf at hp
  repeat' split at hp
  all_goals (first | (cases hp; done) | (refine ⟨?_, ?_⟩ <;> first | assumption | omega))
 obtain ⟨rfl, l⟩ := k;clear h hp hL;rcases l with rfl | rfl
 all_goals
  go_enter Tryz.func218, Tryz.ntmps218
  go_wp2_with fail
  refine c.out.mono ?_
  rintro e m ⟨rfl, g, d⟩
  have i := Lh d
  have j := Lh g
  clear g d
  go_wp2
  go_ret
  exact ⟨rfl, j.out, i.out⟩
end Go.Proofs.YtdcmppdhdcjpfaaGreat
