/- Lemmas for RunnerJustP. -/
import Derived.Test.YtkoikjnlpifbjaaGreatZb26
import Derived.Test.YtkoikjnlpifbjaaGreatZb3
import Derived.Test.YtkoikjnlpifbjaaGreatZb1
set_option linter.unusedVariables false
set_option linter.unusedSimpArgs false
set_option maxRecDepth 100000
set_option maxHeartbeats 16000000
namespace Go.Proofs.YtkoikjnlpifbjaaGreat
open Go.RowKit Go.Deep
theorem Vp (L : Lay) (hL : LOk L) (m : Mm) (n : Nat) (i : Int) (W : World) (h : MRx L m W) (hs : LenS L.p.V m.s) (hn : n < m.s.arrs.length) (hb : i < 0 ∨ ((m.s.arr (n : Int)).length : Int) ≤ i) : Calls Tryz.prog 146 #[.pointer (some ⟨L.M, 0, none⟩), .int .i64 (n : Int), .int .i64 i] W fun e W' => e = .returned (.pointer none) ∧ MRx L ⟨m.s.stop 2 0, m.stack⟩ W' ∧ Only L.M W W' := by
 obtain ⟨fs, sv, ev, l, q⟩ := h;have o := EL L hL m 2 0 W ⟨fs, sv, ev, l, q⟩;obtain ⟨g, z⟩ : ∃ g, L.ab[n]? = some g := ⟨_, La (by rw [hL.alen, ← hs.alen]; exact hn)⟩;obtain ⟨ad, t, k, ht, hc⟩ := hL.arrs W q.core.im n g z;have y := hs.arr_len (n := (n : Int)) (t := t) (by rw [L1]; exact ht);have b : (m.s.arr (n : Int)).length = (QY t).toNat := by omega
 rw [b] at hb;have af : (n : Int) < (L.ab.length : Int) := by have := (Ld.1 z).1; omega
 have c5 := q.row.cellv (i := 5) (v := .slice L.aa L.ab.length L.acap) rfl;rw [k] at c5;have c := Lv o;clear o q hL hs z ht y b hn l k;by_cases h0 : i < 0
 · clear hb;go_enter Tryz.func146, Tryz.ntmps146
   go_wp2_with fail
   refine c.out.mono ?_;rintro e W2 ⟨⟨u, rfl⟩, j, d⟩;have w := Lv d;have x := Lv j;clear j d;go_wp2
   go_ret
   exact ⟨rfl, x.out, w.out⟩
 · have ac : 0 ≤ i := by omega
   have ae : ((QY t).toNat : Int) ≤ i := by omega
   clear hb h0;generalize (QY t).toNat = sz at *;go_enter Tryz.func146, Tryz.ntmps146
   go_wp2_with fail
   refine c.out.mono ?_;rintro e W2 ⟨⟨u, rfl⟩, j, d⟩;have w := Lv d;have x := Lv j;clear j d;go_wp2
   go_ret
   exact ⟨rfl, x.out, w.out⟩
theorem Abf (L : Lay) (hL : LOk L) (m : Mm) (n i : Nat) (g : Nat) (W : World) (h : MRx L m W) (hs : LenS L.p.V m.s) (hg : L.ab[n]? = some g) (hb : i < (m.s.arr (n : Int)).length) : Calls Tryz.prog 146 #[.pointer (some ⟨L.M, 0, none⟩), .int .i64 (n : Int), .int .i64 (i : Int)] W fun e W' => e = .returned (.pointer (some ⟨g, i, none⟩)) ∧ W = W' := by
 obtain ⟨x, z, ev, j, k⟩ := h;obtain ⟨w, t, c, l, y⟩ := hL.arrs W k.core.im n g hg;have d := hs.arr_len (n := (n : Int)) (t := t) (by rw [L1]; exact l);have b : (m.s.arr (n : Int)).length = (QY t).toNat := by omega
 rw [b] at hb;have u : (n : Int) < (L.ab.length : Int) := by have := (Ld.1 hg).1; omega
 have o := k.row.cellv (i := 5) (v := .slice L.aa L.ab.length L.acap) rfl;rw [c] at o;clear k hL hs hg l d b j c;generalize (QY t).toNat = sz at *;have q : (i : Int) < (sz : Int) := by omega
 clear hb;go_enter Tryz.func146, Tryz.ntmps146
 go_wp2
 go_ret
 exact ⟨rfl, rfl⟩
theorem Adn (M : Nat) (v at_ x : Int) (W : World) : Calls Tryz.prog 147 #[.pointer (some ⟨M, 0, none⟩), .pointer none, .int .i64 v, .int .i64 at_, .int .i64 x] W fun e W' => (∃ u, e = .returned u) ∧ W = W' := by
 go_enter Tryz.func147, Tryz.ntmps147
 go_wp2
 go_end0
 exact ⟨⟨_, rfl⟩, rfl⟩
theorem Aje : (Tryz.prog.info? 263).map (fun i => (i.zero, i.size, i.bytes)) = some (some (.agg #[.int .i64 0, .int .i64 0, .int .i64 0]), 3, 24) := by kernel_rfl
theorem AbJ (e : EvV) : ∀ u ∈ e.cells, u.oneCell' = true := by
 intro u b;simp only [EvV.cells, L2, L9, or_false] at b;rcases b with rfl | rfl | rfl <;> rfl
theorem Aic (cur : Array Value) (k : Nat) (u : Value) (hk : k < cur.size) : ZQ cur k [u] = cur.setIfInBounds k u := by
 unfold ZQ;apply Array.toList_inj.1;simp only [Ni, Array.toList_setIfInBounds];rw [List.set_eq_take_append_cons_drop, if_pos (by simpa using hk)]; simp
theorem Abe (L : Lay) (hL : LOk L) (s1 s2 : Ms) (fs : List FrV) (sv ev : Value) (g k : Nat) (cur : Array Value) (v at_ x : Int) (W : World) (hg : Row W g 3 cur) (hk : k < cur.size)
 (hst : ∀ W1, Only g W W1 → Row W1 g 3 (cur.setIfInBounds k (.int .i64 x)) → MR L s1 fs sv ev W1 ∧ Chg L W W1)
 (h1 : s2.vals = s1.vals) (h2 : s2.arrs = s1.arrs) (h3 : s2.steps = s1.steps) (h4 : s2.fuel = s1.fuel) (h5 : s2.evs = s1.evs ++ [⟨v, at_, x⟩]) (h6 : s1.evs.length + fs.length < s1.steps) (h7 : s2.out = s1.out) :
 Calls Tryz.prog 147 #[.pointer (some ⟨L.M, 0, none⟩), .pointer (some ⟨g, k, none⟩), .int .i64 v, .int .i64 at_, .int .i64 x] W fun e W' => (∃ u, e = .returned u) ∧ (∃ sv ev, MR L s2 fs sv ev W') ∧ Chg L W W' := by
 obtain ⟨i0, ac, ad, ae, af⟩ := info_parts Aje;have m := Lv hst;have p := Lv hL;have Hg := Lv hg;have j := Lv (Aic cur k (.int .i64 x) hk);have H1 := Lv h1;have H2 := Lv h2;have s := Lv h3;have H4 := Lv h4;have H5 := Lv h5;have H7 := Lv h7;have hF := hL.F;clear hst hL hg h1 h2 h3 h4 h5 h7;go_enter Tryz.func147, Tryz.ntmps147
 go_wp2_with (refine Qp _ _ _ rfl ?_)
 refine Stop.to ?_;refine Qq rfl 3 _ _ rfl g k rfl _ rfl [.int .i64 x] rfl 3 _ _ Hg.out (by kernel_rfl) (by simp; omega) (by simp [Value.oneCell']) j.out ?_;intro W1 r1 o1;obtain ⟨c, g1⟩ := m.out W1 o1 r1;have l := Lv c;have G1 := Lv g1;have z := c.row.cellv (i := 11) (v := ev) rfl;have o := c.core.sum;have ab := c.core.size;have ag : s1.evs.length ≤ 20001 := by omega
 have ha := c.core.evs.alloc (.cells (EvV.cells ⟨v, at_, x⟩).toArray 263);have t := Lv ha;clear c g1 r1 o1 ha o m Hg j hk;go_wp2_with (at_builtin; refine wpList_append_own_at _ rfl (.tmp 20) (.tmp 25) 112 rfl L.b1 263 i0 _ 3 24 Tryz.underlying112 ac ad ae af rfl (by decide) ev s1.evs.length (s1.evs.flatMap EvV.cells) rfl t.out ⟨W1.heap.size, 0, none⟩ 1 1 (EvV.cells ⟨v, at_, x⟩) rfl rfl (JK _ _ _) (AbJ _) (by unfold maxLen; omega) (by omega) (by simp; omega) ?_)
 intro d W3 h hg _ aa;have y : Below W1.heap.size W1 (W1.alloc (.cells (EvV.cells ⟨v, at_, x⟩).toArray 263)) := (Below.refl _ _).alloc (Nat.le_refl _) _;have b := l.out.below p.out y;have k3 := b.core.grownEvs (s' := s2) p.out hg (by rw [H5.out]; simpa using h) H1.out H2.out s.out H4.out (by rw [H5.out, s.out]; simp; omega);have r3 := b.row.grown hg (QD b.core.evs b.row (by decide));have s3 := Zx b.stack hg (ZM b.stack b.core.evs (by decide));have g3 := (G1.out.trans (Chg.below (L := L) (y.mono ab))).trans (.grown hg (by simp; omega) (fun k e => Q3 t.out e));have n := Kg h;have K3 := Lv k3;have R3 := Lv r3;have w := Lv s3;have G3 := Lv g3;clear h hg aa y b k3 r3 s3 g3 t l G1 z;go_wp2_with (refine Qp _ _ _ rfl ?_)
 refine Stop.to ?_;refine Qq rfl 112 _ _ rfl L.M 11 rfl _ rfl [d] (by cases d <;> first | rfl | cases n) 184 _ (L.cells s2 sv d) R3.out (by kernel_rfl) (by show 11 + 1 ≤ 14; omega) (by simpa using n) (by unfold Lay.cells; rw [s.out, H7.out]; rfl) ?_
 intro W4 r4 q;have m4 : MR L s2 fs sv d W4 := ⟨r4, QB w.out q (fun e => by have := Q3 w.out e; have := p.out.lt; omega), K3.out.only p.out q⟩;have M4 := Lv m4;have G4 := Lv (G3.out.trans (.only q (.inr (.inl rfl))));clear m4 r4 q K3 R3 w G3;go_wp2
 go_end0
 exact ⟨⟨_, rfl⟩, ⟨sv, d, M4.out⟩, G4.out⟩
structure TopF (L : Lay) (W : World) (M SB o : Nat) (q : Nat) (kid : Nat) (fv : Value) (tag : Int) (kd : Addr) (nk : Nat) (pos : List Nat) : Prop where
 c3 : ∃ ka, L.ka = some ka ∧ W.cell? ⟨L.M, 3, none⟩ = some (.slice (some ka) L.p.body.length L.kcap) ∧ ∃ A cap, W.cell? (ka.add q) = some (.slice A nk cap) ∧ (0 < nk → A = some kd)
 c2 : ∃ bd, W.cell? ⟨L.M, 2, none⟩ = some (.slice (some bd) L.p.body.length L.p.bcap) ∧ W.cell? (bd.add (q * 2)) = some (.int .i64 tag)
 a0 : W.cell? ⟨SB, o, none⟩ = some (.int .i64 (q : Int))
 a1 : W.cell? ⟨SB, o + 1, none⟩ = some (.int .i64 (kid : Int))
 a2 : W.cell? ⟨SB, o + 2, none⟩ = some fv
 ql : (q : Int) < (L.p.body.length : Int)
 kl : (kid : Int) < 1000000
 pl : pos.length = nk
 pc : ∀ (i k : Nat), pos[i]? = some k → W.cell? (kd.add i) = some (.int .i64 (k : Int))
theorem Ak8 {L : Lay} (hL : LOk L) {s : Ms} {x : FrV} {r : List FrV} {sv ev : Value} {W : World} {SB cap : Nat} {cur : Array Value} (hm : MR L s (x :: r) sv ev W) (ht : Top L W x r sv SB cap cur) (hat : At L.p.body x.f.at_ x.f.t) (hk : x.f.kid < 1000000) :
 ∃ kd, TopF L W L.M SB (r.length * 3) x.f.at_ x.f.kid x.v x.f.t.root.tag kd x.f.t.kids.length (Zk (x.f.at_ + 1) x.f.t.kids) := by
 obtain ⟨ka, A, kcap, d, q, e⟩ := hL.kids W hm.core.im x.f.at_ x.f.t hat;obtain ⟨h, j, m⟩ := JW (hL.pok W hm.core.im).brd hat.root;have c := m 0 (.int .i64 x.f.t.root.tag) rfl;rw [show (h.add (x.f.at_ * 2)).add 0 = h.add (x.f.at_ * 2) by rw [KY]; simp] at c;have w : W.cell? ⟨L.M, 3, none⟩ = some (.slice L.ka L.p.body.length L.kcap) := hm.row.cellv rfl;have u : W.cell? ⟨L.M, 2, none⟩ = some (.slice L.p.ba L.p.body.length L.p.bcap) := hm.row.cellv rfl;rw [d] at w;rw [j] at u;have g : (Zk (x.f.at_ + 1) x.f.t.kids).length = x.f.t.kids.length := JR _ _;refine ⟨A.getD ⟨0, 0, none⟩, ⟨ka, d, w, A, kcap, q, fun h0 => ?_⟩, ⟨h, u, c⟩, by have := ht.cell 0 _ rfl; simpa using this, ht.cell 1 _ rfl, ht.cell 2 _ rfl, by have := hat.lt; omega, by omega, g, fun i k n => ?_⟩
 · obtain ⟨k, o⟩ : ∃ k, (Zk (x.f.at_ + 1) x.f.t.kids)[0]? = some k := ⟨_, La (by omega)⟩;obtain ⟨y, b, _⟩ := ZP (l := KI (Zk (x.f.at_ + 1) x.f.t.kids)) e (k := 0) (x := (k : Int)) (by simp [KI, o]);rw [b]; rfl
 · obtain ⟨y, b, z⟩ := ZP (l := KI (Zk (x.f.at_ + 1) x.f.t.kids)) e (k := i) (x := (k : Int)) (by simp [KI, n]);rw [b]; exact z
theorem AeM (L : Lay) (SB o q kid : Nat) (fv : Value) (tag : Int) (kd : Addr) (nk : Nat) (pos : List Nat) (k : Nat) (W : World) (h : TopF L W L.M SB o q kid fv tag kd nk pos) (hkid : kid < nk) (hk : pos[kid]? = some k)
 (h1 : ¬ (tag = 23 ∧ 1 ≤ kid)) (h2 : kid = 1 → asks tag → ∃ vd n cap v, fv = .slice (some vd) (n + 1) cap ∧ W.cell? vd = some (.int .i64 v) ∧ ¬ UN tag v) :
 Calls Tryz.prog 112 #[.pointer (some ⟨L.M, 0, none⟩), .pointer (some ⟨SB, o, none⟩)] W fun e W' => ∃ n, e = .returned (.tuple #[.int .i64 (k : Int), .bool true]) ∧ W' = W.drewN n := by
 obtain ⟨⟨ka, p, c3, A, u, ck, s⟩, ⟨bd, c2, ct⟩, a0, a1, a2, ql, kl, pl, w⟩ := h;obtain rfl := s (by omega);have x := w kid k hk;have ac : (kid : Int) < (nk : Int) := by omega
 clear w hk p pl s;by_cases c : kid = 1
 · by_cases b : asks tag
   · obtain ⟨vd, n, cap, v, rfl, cv, t⟩ := h2 c b;have g : (tag = 18 ∧ v ≠ 0) ∨ (tag = 19 ∧ v ≠ 1) ∨ (tag = 24 ∧ v ≠ 0) := by unfold asks at b; unfold UN at t; omega
     have l : ((kid : Int) == 1) = true := by simp; omega
     clear h1 h2 b t hkid c;rcases g with ⟨rfl, i⟩ | ⟨rfl, i⟩ | ⟨rfl, i⟩
     · have ev : (v == 0) = false := by simpa using i
       clear i;go_enter Tryz.func112, Tryz.ntmps112
       go_wp2_with fail
       go_quiet (fail)
       go_wp2_with fail
       go_quiet (fail)
       go_wp2
       go_ret2
       exact ⟨_, rfl, rfl⟩
     · have ev : (v == 1) = false := by simpa using i
       clear i;go_enter Tryz.func112, Tryz.ntmps112
       go_wp2_with fail
       go_quiet (fail)
       go_wp2_with fail
       go_quiet (fail)
       go_wp2
       go_ret2
       exact ⟨_, rfl, rfl⟩
     · have ev : (v == 0) = false := by simpa using i
       clear i;go_enter Tryz.func112, Tryz.ntmps112
       go_wp2_with fail
       go_quiet (fail)
       go_wp2_with fail
       go_quiet (fail)
       go_wp2
       go_ret2
       exact ⟨_, rfl, rfl⟩
   · have d : tag ≠ 18 ∧ tag ≠ 19 ∧ tag ≠ 24 ∧ tag ≠ 23 := by unfold asks at b; omega
     have y : (tag == 18) = false := by simpa using d.1
     have z : (tag == 19) = false := by simpa using d.2.1
     have aa : (tag == 24) = false := by simpa using d.2.2.1
     have m : (tag == 23) = false := by simpa using d.2.2.2
     have l : ((kid : Int) == 1) = true := by simp; omega
     clear h1 h2 b d hkid c;go_enter Tryz.func112, Tryz.ntmps112
     go_wp2_with fail
     go_quiet (fail)
     go_wp2_with fail
     go_quiet (fail)
     go_wp2
     go_ret2
     exact ⟨_, rfl, rfl⟩
 · have l : ((kid : Int) == 1) = false := by simp; omega
   by_cases j : tag = 23
   · have eg : decide ((1 : Int) < (kid : Int)) = false := by simp; omega
     have ab : ¬ ((1 : Int) < (kid : Int)) := by omega
     subst j;clear h1 h2 c hkid;go_enter Tryz.func112, Tryz.ntmps112
     go_wp2_with fail
     go_quiet (fail)
     go_wp2_with fail
     go_quiet (fail)
     go_wp2
     go_ret2
     exact ⟨_, rfl, rfl⟩
   · have m : (tag == 23) = false := by simpa using j
     clear h1 h2 c j hkid;go_enter Tryz.func112, Tryz.ntmps112
     go_wp2_with fail
     go_quiet (fail)
     go_wp2_with fail
     go_quiet (fail)
     go_wp2
     go_ret2
     exact ⟨_, rfl, rfl⟩
theorem Adl (L : Lay) (SB o q kid : Nat) (fv : Value) (tag : Int) (kd : Addr) (nk : Nat) (pos : List Nat) (i k : Nat) (v : Int) (vd : Addr) (n cap : Nat) (W : World) (h : TopF L W L.M SB o q kid fv tag kd nk pos) (hk : pos[i]? = some k)
 (ht : tag = 23) (h1 : kid = 1) (hf : fv = .slice (some vd) (n + 1) cap) (cv : W.cell? vd = some (.int .i64 v)) (hv : v = 0 ∨ v = 1) (hi : (i : Int) = 2 - v) :
 Calls Tryz.prog 112 #[.pointer (some ⟨L.M, 0, none⟩), .pointer (some ⟨SB, o, none⟩)] W fun e W' => ∃ n, e = .returned (.tuple #[.int .i64 (k : Int), .bool true]) ∧ W' = W.drewN n := by
 subst ht hf;obtain ⟨⟨ka, d, z, A, j, ck, g⟩, ⟨x, y, ct⟩, t, u, w, ql, kl, s, l⟩ := h;have c : i < nk := by have := (Ld.1 hk).1; omega
 obtain rfl := g (by omega);have b := l i k hk;have p : (i : Int) < (nk : Int) := by omega
 have m : ((kid : Int) == 1) = true := by simp; omega
 have eg : decide ((1 : Int) < (kid : Int)) = false := by simp; omega
 clear l hk d s g h1 c;rcases hv with rfl | rfl
 · obtain rfl : i = 2 := by omega
   replace b : W.cell? ⟨kd.block, kd.off + 2, none⟩ = some (.int .i64 (k : Int)) := b;clear hi;go_enter Tryz.func112, Tryz.ntmps112
   go_wp2_with fail
   go_quiet (fail)
   go_wp2_with fail
   go_quiet (fail)
   go_wp2
   go_ret2
   exact ⟨_, rfl, rfl⟩
 · obtain rfl : i = 1 := by omega
   replace b : W.cell? ⟨kd.block, kd.off + 1, none⟩ = some (.int .i64 (k : Int)) := b;clear hi;go_enter Tryz.func112, Tryz.ntmps112
   go_wp2_with fail
   go_quiet (fail)
   go_wp2_with fail
   go_quiet (fail)
   go_wp2
   go_ret2
   exact ⟨_, rfl, rfl⟩
theorem Adm (L : Lay) (SB o q kid : Nat) (fv : Value) (tag : Int) (kd : Addr) (nk : Nat) (pos : List Nat) (W : World) (h : TopF L W L.M SB o q kid fv tag kd nk pos)
 (h0 : (kid = 1 ∧ ∃ vd n cap v, fv = .slice (some vd) (n + 1) cap ∧ W.cell? vd = some (.int .i64 v) ∧ UN tag v) ∨ (¬ (kid = 1 ∧ asks tag) ∧ ((tag = 23 ∧ 1 < kid) ∨ (tag ≠ 23 ∧ nk ≤ kid)))) :
 Calls Tryz.prog 112 #[.pointer (some ⟨L.M, 0, none⟩), .pointer (some ⟨SB, o, none⟩)] W fun e W' => ∃ n, e = .returned (.tuple #[.int .i64 0, .bool false]) ∧ W' = W.drewN n := by
 obtain ⟨⟨ka, p, c3, A, u, ck, hA⟩, ⟨bd, c2, ct⟩, a0, s, a2, ql, w, pl, pc⟩ := h;clear pc p pl hA;rcases h0 with ⟨d, vd, n, cap, v, rfl, cv, t⟩ | ⟨k, h0⟩
 · have b : ((kid : Int) == 1) = true := by simp; omega
   have c : (tag = 18 ∧ v = 0) ∨ (tag = 19 ∧ v = 1) ∨ (tag = 24 ∧ v = 0) := by unfold UN at t; omega
   clear t d;rcases c with ⟨rfl, rfl⟩ | ⟨rfl, rfl⟩ | ⟨rfl, rfl⟩
   · go_enter Tryz.func112, Tryz.ntmps112
     go_wp2_with fail
     go_quiet (fail)
     go_wp2_with fail
     go_quiet (fail)
     go_wp2
     go_ret2
     exact ⟨_, rfl, rfl⟩
   · go_enter Tryz.func112, Tryz.ntmps112
     go_wp2_with fail
     go_quiet (fail)
     go_wp2_with fail
     go_quiet (fail)
     go_wp2
     go_ret2
     exact ⟨_, rfl, rfl⟩
   · go_enter Tryz.func112, Tryz.ntmps112
     go_wp2_with fail
     go_quiet (fail)
     go_wp2_with fail
     go_quiet (fail)
     go_wp2
     go_ret2
     exact ⟨_, rfl, rfl⟩
 · rcases h0 with ⟨rfl, m⟩ | ⟨i, m⟩
   · have b : ((kid : Int) == 1) = false := by simp; omega
     have eg : decide ((1 : Int) < (kid : Int)) = true := by simp; omega
     have ab : ((1 : Int) < (kid : Int)) := by omega
     clear k;go_enter Tryz.func112, Tryz.ntmps112
     go_wp2_with fail
     go_quiet (fail)
     go_wp2_with fail
     go_quiet (fail)
     go_wp2
     go_ret2
     exact ⟨_, rfl, rfl⟩
   · have z : (tag == 23) = false := by simpa using i
     have j : decide ((kid : Int) < (nk : Int)) = false := by simp; omega
     by_cases d : kid = 1
     · have g : tag ≠ 18 ∧ tag ≠ 19 ∧ tag ≠ 24 := by unfold asks at k; omega
       have x : (tag == 18) = false := by simpa using g.1
       have y : (tag == 19) = false := by simpa using g.2.1
       have aa : (tag == 24) = false := by simpa using g.2.2
       have b : ((kid : Int) == 1) = true := by simp; omega
       clear k g m d i;generalize (kid : Int) = kI at s w b j;have l : (kI < (nk : Int)) = False := by simpa using j
       clear j;go_enter Tryz.func112, Tryz.ntmps112
       go_wp2_with fail
       go_quiet (fail)
       go_wp2_with fail
       go_quiet (fail)
       go_wp2
       go_ret2
       exact ⟨_, rfl, rfl⟩
     · have b : ((kid : Int) == 1) = false := by simp; omega
       clear k m d i;generalize (kid : Int) = kI at s w b j;have l : (kI < (nk : Int)) = False := by simpa using j
       clear j;go_enter Tryz.func112, Tryz.ntmps112
       go_wp2_with fail
       go_quiet (fail)
       go_wp2_with fail
       go_quiet (fail)
       go_wp2
       go_ret2
       exact ⟨_, rfl, rfl⟩
theorem JA {P : Program} {ops : Array Oper} {S : World → Prop} {a : Act} {o : Oper} (hw : Region.wanted o (yielded ops a.tmps) = true) (ty : TypeId) (x : Operand) (ho : o.op = .load ty x) (ad : Addr) (hx : a.eval x = .pointer (some ad)) (cs : List Value) (d : TypeDesc)
 (hr : ∀ W, S W → ∀ (j : Nat) (v : Value), cs[j]? = some v → W.cell? (ad.add j) = some v) (hu : P.underlying ty = some d) (hd : (match d with | .struct _ | .array _ _ => true | _ => false) = true) (hi : (P.info? ty).map (·.size) = some cs.length) : YieldsIf P ops S o (.agg cs.toArray) a :=
 Qd hw (fun W hW => by simp only [execOp, ho, hx, Instr.loadAt, Instr.sureAddr, Sem.run_bind, Sem.run_pure, Result.andThen_ok, JZ W ad ty cs d (hr W hW) hu hd hi])
section
variable {L : Lay} {s : Ms} {x : FrV} {rs : List FrV} {sv ev : Value} {W W' : World} {SB cap : Nat} {cur : Array Value}
theorem MC.drop (h : MC L s (x :: rs) ev W) : MC L s rs ev W :=
 ⟨h.evs, h.vals, h.arrs, fun y hy => h.fr y (NK _ hy), (Nl.1 h.dist).2, h.im, h.size, h.sum, by have := h.few; simp at this; omega⟩
theorem MR.pop (h : MR L s (x :: rs) sv ev W) (hL : LOk L) (ht : Top L W x rs sv SB cap cur) (o : Only L.M W W') (hr : Row W' L.M 184 (L.cells s (.slice (some ⟨SB, 0, none⟩) rs.length cap) ev)) : MR L s rs (.slice (some ⟨SB, 0, none⟩) rs.length cap) ev W' :=
 ⟨hr, QB ht.pop o (fun e => by have := Q3 ht.pop e; have := hL.lt; omega), (h.core.only hL o).drop⟩
theorem MR.drew1 (h : MR L s rs sv ev W) (hL : LOk L) : MR L s rs sv ev W.drew := h.below hL ⟨rfl, rfl, rfl, Nat.le_refl _, fun _ _ => rfl⟩
theorem Top.drew1 (h : Top L W x rs sv SB cap cur) : Top L W.drew x rs sv SB cap cur := h.below ⟨rfl, rfl, rfl, Nat.le_refl _, fun _ _ => rfl⟩
theorem Chg.drew1 (h : Chg L W W') : Chg L W W'.drew := h.trans ⟨rfl, rfl, rfl, Nat.le_refl _, fun _ _ _ _ _ => rfl⟩
theorem MR.few1 (h : MR L s (x :: rs) sv ev W) : s.evs.length + rs.length < s.steps := by have := h.core.few; simp at this; omega
theorem MR.setVal (h : MR L s rs sv ev W) (hL : LOk L) (n : Nat) (v : Int) (hn : n < s.vals.length) : ∃ g cap cur, L.vv = .slice (some ⟨g, 0, none⟩) s.vals.length cap ∧ Row W g 3 cur ∧ n < cur.size ∧ ∀ W1, Only g W W1 → Row W1 g 3 (cur.setIfInBounds n (.int .i64 v)) → MR L { s with vals := s.vals.set n v } rs sv ev W1 ∧ Chg L W W1 := by
 rcases h.core.vals.2 with ⟨_, p⟩ | ⟨g, cap, cur, j, t, x, w, z, d, ht⟩
 · have := h.core.vals.1; rw [p] at this; simp [Qj] at this; omega
 · have b : L.vv.ownBlock = some g := by rw [j]; rfl
   refine ⟨g, cap, cur, j, x, by omega, fun W1 o r1 => ?_⟩;have c := hL.vlt g b;have ne : ∀ {e : TypeId} {size m : Nat} {u : Value} {xs : List Value}, W.ownsRow L.b1 e size u m xs → W1.ownsRow L.b1 e size u m xs := fun k => QB k o (fun e => by have := Q3 k e; omega)
   refine ⟨⟨h.row.only o (fun e => c.2.1 e.symm), ne h.stack, ⟨ne h.core.evs, ⟨by have := h.core.vals.1; simp [Qj] at this ⊢, .inr ⟨g, cap, _, by simpa using j, t, r1, by simpa using w, z, by simpa using d, ?_⟩⟩, ?_, fun y hy => ne (h.core.fr y hy), h.core.dist, hL.im _ _ h.core.im (.only o (.inr (.inr (.inl b)))), by rw [o.size]; exact h.core.size, h.core.sum, h.core.few⟩⟩, .only o (.inr (.inr (.inl b)))⟩
   · simp only [Array.toList_setIfInBounds, LS];rw [List.take_set, ht];simp [Qj, List.map_set]
   · intro i l a hi q;exact (h.core.arrs i l a hi q).only o (fun e => c.2.2 (by subst e; exact Lj hi))
theorem MR.setArr (h : MR L s rs sv ev W) (hL : LOk L) (n i : Nat) (v : Int) (a : List Int) (g : Nat) (hg : L.ab[n]? = some g) (ha : s.arrs[n]? = some a) : Row W g 3 (Qj a).toArray ∧ ∀ W1, Only g W W1 → Row W1 g 3 ((Qj a).toArray.setIfInBounds i (.int .i64 v)) → MR L { s with arrs := s.arrs.set n (a.set i v) } rs sv ev W1 ∧ Chg L W W1 := by
 refine ⟨h.core.arrs n g a hg ha, fun W1 o r1 => ?_⟩;have l := Lj hg;have w := hL.alt g l;have ne : ∀ {e : TypeId} {size m : Nat} {u : Value} {xs : List Value}, W.ownsRow L.b1 e size u m xs → W1.ownsRow L.b1 e size u m xs := fun h' => QB h' o (fun e => by have := Q3 h' e; omega)
 refine ⟨⟨h.row.only o (fun e => w.2 e.symm), ne h.stack, ⟨ne h.core.evs, QB h.core.vals o (fun e => (hL.vlt g e).2.2 l), ?_, fun y hy => ne (h.core.fr y hy), h.core.dist, hL.im _ _ h.core.im (.only o (.inr (.inr (.inr l)))), by rw [o.size]; exact h.core.size, h.core.sum, h.core.few⟩⟩, .only o (.inr (.inr (.inr l)))⟩;intro j g' b k p;by_cases c : j = n
 · subst c;rw [hg] at k; cases k;have t : j < s.arrs.length := (Ld.1 ha).1;simp only [List.getElem?_set_self t, No] at p;subst p;have : (Qj (a.set i v)).toArray = (Qj a).toArray.setIfInBounds i (.int .i64 v) := by simp [Qj, List.map_set]
   rw [this]; exact r1
 · have q : s.arrs[j]? = some b := by simpa [List.getElem?_set, Ne.symm c] using p
   refine (h.core.arrs j g' b k q).only o (fun e => c ?_);subst e;have h1 := Ld.1 hg;have h2 := Ld.1 k;obtain ⟨l1, x⟩ := h1;obtain ⟨l2, z⟩ := h2;rcases N6 j n with d | d | d
   · exact absurd (z.trans x.symm) (N3.1 hL.and j n l2 l1 d)
   · exact d
   · exact absurd (x.trans z.symm) (N3.1 hL.and n j l1 l2 d)
end
end Go.Proofs.YtkoikjnlpifbjaaGreat
