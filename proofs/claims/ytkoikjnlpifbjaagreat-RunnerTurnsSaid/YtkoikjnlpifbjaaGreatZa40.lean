/- Lemmas for RunnerTurnsP. -/
import Derived.Test.YtkoikjnlpifbjaaGreatZa1
import Derived.Test.YtkoikjnlpifbjaaGreatZa14
import Derived.Test.YtkoikjnlpifbjaaGreatZa39
set_option linter.unusedVariables false
set_option linter.unusedSimpArgs false
set_option maxRecDepth 100000
set_option maxHeartbeats 16000000
namespace Go.Proofs.YtkoikjnlpifbjaaGreat
open Go.RowKit Go.Deep
def Aij (p : PgV) (ts : List IntsV) (fuel : Int) : Bool := AgK p && (E7 ts && (decide (p.body.length ≤ 40) && (decide (ts.length ≤ 5) && (decide (fuel ≤ 200) || decide (10000 < fuel)))))
theorem AfA (p : PgV) (A : Option Addr) (cap : Nat) (ts : List IntsV) (fuel : Int) (w : World) (hr : Rd w A (ZN ts)) : Calls Tryz.prog 23 #[.agg p.cells, .slice A ts.length cap, .int .i64 fuel] w fun e w' => e = .returned (.bool (Aij p ts fuel)) ∧ Below w.heap.size w w' := by
 have Hr := Lh hr;clear hr;have c : Hid (∀ {β : Bool}, (AgK p && (E7 ts && (decide (p.body.length ≤ 40) && (decide (ts.length ≤ 5) && (decide (fuel ≤ 200) || decide (10000 < fuel)))))) = β → Aij p ts fuel = β) := fun h => h
 go_enter Tryz.func23, Tryz.ntmps23
 go_wp2_with (refine Qm _ _ rfl ?_)
 refine Stop.to ?_;refine Qe rfl 25 _ rfl p.cells rfl ?_;intro G Gw Gh k Gb;have l := (Below.refl w.heap.size w).trans (Gb.mono Gh);clear Gb Gh;go_wp2_with (refine wpList_load_row rfl 25 _ rfl G rfl 25 p.cells (0, 0) _ k Tryz.underlying25 rfl (by kernel_rfl) ?_)
 refine (Aik p Gw).mono ?_;rintro e w1 ⟨rfl, z⟩;replace k := k.below z k.lt;replace l := l.trans (z.mono l.size);have j := Lh l;have u := AgL A cap ts w1 (Hr.out.go l);obtain ⟨n, hn⟩ : ∃ n, n = ts.length := ⟨_, rfl⟩;rw [← hn] at c u ⊢;have c2 := k.cellv (i := 2) (v := .slice p.ba p.body.length p.bcap) rfl;obtain ⟨m, hm⟩ : ∃ m, m = p.body.length := ⟨_, rfl⟩;rw [← hm] at c c2;obtain ⟨q, hq⟩ : ∃ q, q = AgK p := ⟨_, rfl⟩;rw [← hq] at c ⊢;obtain ⟨q2, t⟩ : ∃ q, q = E7 ts := ⟨_, rfl⟩;rw [← t] at c u;have HT := Lh u;clear z l k Hr hn hm hq t u;cases q
 · go_wp2_with fail
   go_ret
   exact ⟨Q4 (c.out (by simp)), j.out⟩
 go_wp2_with fail
 refine HT.out.mono ?_;rintro e w2 ⟨rfl, rfl⟩;clear HT;cases q2
 · go_wp2_with fail
   go_ret
   exact ⟨Q4 (c.out (by simp)), j.out⟩
 by_cases b : m ≤ 40;rotate_left
 · have aa : ¬ (m : Int) ≤ 40 := by omega
   have ac : 40 < (m : Int) := by omega
   have H1 := Lh b;clear b;go_wp2_with fail
   go_ret
   exact ⟨Q4 (c.out (by have b := H1.out; simp [b])), j.out⟩
 have aa : (m : Int) ≤ 40 := by omega
 by_cases o : n ≤ 5;rotate_left
 · have ab : ¬ (n : Int) ≤ 5 := by omega
   have ad : 5 < (n : Int) := by omega
   have H2 := Lh o;clear b o;go_wp2_with fail
   go_ret
   exact ⟨Q4 (c.out (by have o := H2.out; simp [o])), j.out⟩
 have ab : (n : Int) ≤ 5 := by omega
 have g := Lh (And.intro b o);clear b o;by_cases d : fuel ≤ 200
 · have x := Lh d;go_wp2_with fail
   go_ret
   exact ⟨Q4 (c.out (by have b := g.out; have d := x.out; simp [b.1, b.2, d])), j.out⟩
 have ae : 200 < fuel := by omega
 by_cases s : 10000 < fuel
 · have y := Lh s;clear d;go_wp2_with fail
   go_ret
   exact ⟨Q4 (c.out (by have b := g.out; have d := y.out; simp [b.1, b.2, d])), j.out⟩
 · have af : fuel ≤ 10000 := by omega
   have x := Lh d;have y := Lh s;clear d s;go_wp2_with fail
   go_ret
   exact ⟨Q4 (c.out (by have b := g.out; have d := x.out; have s := y.out; simp only [b.1, b.2, d, s, decide_true, decide_false, Bool.true_and, Bool.or_self])), j.out⟩
structure FewR (p : PgV) (ts : List IntsV) (fuel : Int) : Prop where
 v : Aij p ts fuel = true
 body : p.body.length ≤ 20
 tl : ts.length ≤ 3
theorem AaF (p : PgV) (A : Option Addr) (cap : Nat) (ts : List IntsV) (fuel : Int) (w : World) (hr : Rd w A (ZN ts)) : Calls Tryz.prog 7 #[.agg p.cells, .slice A ts.length cap, .int .i64 fuel] w fun e w' => (e = .returned (.bool false) ∨ (e = .returned (.bool true) ∧ FewR p ts fuel)) ∧ Below w.heap.size w w' := by
 have y := Lh hr;clear hr;go_enter Tryz.func7, Tryz.ntmps7
 go_wp2_with (refine Qm _ _ rfl ?_)
 refine Stop.to ?_;refine Qe rfl 25 _ rfl p.cells rfl ?_;intro G Gw t d s;have h := (Below.refl w.heap.size w).trans (s.mono t);clear s t;go_wp2_with (refine wpList_load_row rfl 25 _ rfl G rfl 25 p.cells (0, 0) _ d Tryz.underlying25 rfl (by kernel_rfl) ?_)
 refine (AfA p A cap ts fuel Gw (y.out.go h)).mono ?_;rintro e w1 ⟨rfl, j⟩;replace d := d.below j d.lt;replace h := h.trans (j.mono h.size);have g := Lh h;have c2 := d.cellv (i := 2) (v := .slice p.ba p.body.length p.bcap) rfl;obtain ⟨q, o⟩ : ∃ q, q = Aij p ts fuel := ⟨_, rfl⟩;rw [← o];have u : Hid (q = true → (p.body.length : Int) ≤ 20 → (ts.length : Int) ≤ 3 → FewR p ts fuel) := fun a b c => ⟨o ▸ a, by omega, by omega⟩;obtain ⟨n, l⟩ : ∃ n : Nat, n = ts.length := ⟨_, rfl⟩;obtain ⟨m, k⟩ : ∃ m : Nat, m = p.body.length := ⟨_, rfl⟩;rw [← l, ← k] at u;rw [← l];rw [← k] at c2;clear j h d y o l k;cases q
 · go_wp2_with fail
   go_ret
   exact ⟨(.inl rfl), g.out⟩
 by_cases h1 : (m : Int) ≤ 20;rotate_left
 · have z : 20 < (m : Int) := by omega
   go_wp2_with fail
   go_ret
   exact ⟨(.inl rfl), g.out⟩
 by_cases h2 : (n : Int) ≤ 3;rotate_left
 · have aa : 3 < (n : Int) := by omega
   go_wp2_with fail
   go_ret
   exact ⟨(.inl rfl), g.out⟩
 have x := Lh (u.out rfl h1 h2);by_cases h3 : fuel ≤ 80
 · go_wp2_with fail
   go_ret
   exact ⟨(.inr ⟨rfl, x.out⟩), g.out⟩
 have ab : 80 < fuel := by omega
 by_cases h4 : 10000 < fuel
 · go_wp2_with fail
   go_ret
   exact ⟨(.inr ⟨rfl, x.out⟩), g.out⟩
 · have ac : fuel ≤ 10000 := by omega
   go_wp2_with fail
   go_ret
   refine ⟨.inl ?_, g.out⟩;simp [h4]; omega
end Go.Proofs.YtkoikjnlpifbjaaGreat
namespace Go.Proofs.YtkoikjnlpifbjaaGreat
open Go.ChangeShapes Go.WideShapes Go.RowKit Go.Deep
structure TsV where
 A : Option Addr
 cap : Nat
 l : List IntsV
def TsV.val (t : TsV) : Value := .slice t.A t.l.length t.cap
structure TsRaw (W : World) (t : TsV) : Prop where
 len : t.l.length ≤ t.cap
 cap : t.cap ≤ maxLen
 nil : t.A = none → t.cap = 0
 rd : Rd W t.A (ZN t.l)
 ok : ∀ x ∈ t.l, x.ok W
section
variable {H : Type} {enc : TypeId × Value → H} {w : World} {base : Nat} {spare : Nat → Bool} {held : Bool}
theorem U6 {r : Go.Reach} {b0 : Nat} {v : Value} {d : DataW H} {p : List MemPlace} (hv : Value.okWide Tryz.prog w r b0 26 v) (h : DataW.Trod enc Tryz.prog w base spare held 26 v d p) :
 ∃ t : TsV, TsRaw w t ∧ v = t.val := by
 obtain ⟨a, len, b, rfl⟩ := okWide_slice Tryz.underlying26 hv;obtain ⟨i, q⟩ := h;obtain ⟨A, c, l, e, j, k, m, n, o⟩ := Add q;have g : [Value.slice a len b] = [.slice A l.length c] := e;injection g with g;injection g with e3 e4 e5;subst e3 e4 e5;exact ⟨⟨_, _, l⟩, ⟨j, k, m, n, o⟩, rfl⟩
end
end Go.Proofs.YtkoikjnlpifbjaaGreat
namespace Go.Proofs.YtkoikjnlpifbjaaGreat
open Go.RowKit Go.Deep
theorem US (p : PgV) (t : TsV) (q : PgV) (u : TsV) (fuel : Int) (hfuelI : -9223372036854775808 ≤ fuel ∧ fuel ≤ 9223372036854775807) (n : Int) (hnI : -9223372036854775808 ≤ n ∧ n ≤ 9223372036854775807) (w : World) (hok : p.ok w) (ht : TsRaw w t) (hoq : q.ok w) (hu : TsRaw w u) : Calls Tryz.prog 3 #[p.val, t.val, q.val, u.val, .int .i64 fuel, .int .i64 n] w fun e w' => e = .returned (.bool true) ∧ Below w.heap.size w w' := by
 obtain ⟨tA, ad, ts⟩ := t;obtain ⟨b6, b7, b8, bn, bo⟩ := ht;rw [show (TsV.mk tA ad ts).val = .slice tA ts.length ad from rfl];obtain ⟨uA, ai, us⟩ := u;obtain ⟨b9, ca, cb, bp, bq⟩ := hu;rw [show (TsV.mk uA ai us).val = .slice uA us.length ai from rfl];rw [show p.val = .agg p.cells from rfl, show q.val = .agg q.cells from rfl];go_enter Tryz.func3, Tryz.ntmps3
 obtain ⟨S0, d⟩ : ∃ S : World → Prop, S = (fun W => Below w.heap.size w W ∧ p.ok W ∧ q.ok W ∧ Rd W tA (ZN ts) ∧ (∀ y ∈ ts, y.ok W) ∧ Rd W uA (ZN us) ∧ (∀ y ∈ us, y.ok W)) := ⟨_, rfl⟩;have cd : St S0 := by rw [d]; infer_instance
 have o : Hid (∀ W, S0 W → Below w.heap.size w W) := by show ∀ W, _; rw [d]; exact fun W h => h.1
 have ae : Hid (∀ W, S0 W → p.ok W) := by show ∀ W, _; rw [d]; exact fun W h => h.2.1
 have aq : Hid (∀ W, S0 W → q.ok W) := by show ∀ W, _; rw [d]; exact fun W h => h.2.2.1
 have ac : Hid (∀ W, S0 W → Rd W tA (ZN ts)) := by show ∀ W, _; rw [d]; exact fun W h => h.2.2.2.1
 have af : Hid (∀ W, S0 W → (∀ y ∈ ts, y.ok W)) := by show ∀ W, _; rw [d]; exact fun W h => h.2.2.2.2.1
 have ak : Hid (∀ W, S0 W → Rd W uA (ZN us)) := by show ∀ W, _; rw [d]; exact fun W h => h.2.2.2.2.2.1
 have ar : Hid (∀ W, S0 W → (∀ y ∈ us, y.ok W)) := by show ∀ W, _; rw [d]; exact fun W h => h.2.2.2.2.2.2
 have bf : Hid (S0 w) := by show S0 w; rw [d]; exact ⟨Below.refl _ _, hok, hoq, bn, bo, bp, bq⟩
 clear d;clear b6 b7 b8 bn bo b9 ca cb bp bq hok hoq;go_wp2_with (refine Qm _ _ rfl ?_)
 refine Stop.to ?_;refine Qe rfl 25 _ rfl p.cells rfl ?_;intro am bz hG rG bG;have c := cd.go bf.out (bG.mono hG);obtain ⟨S1, d⟩ : ∃ S : World → Prop, S = (fun W => S0 W ∧ Row W am 25 p.cells) := ⟨_, rfl⟩;have ce : St S1 := by rw [d]; infer_instance
 have D1 : Hid (∀ W, S1 W → S0 W) := by show ∀ W, _; rw [d]; exact fun W h => h.1
 have ap : Hid (∀ W, S1 W → Row W am 25 p.cells) := by show ∀ W, _; rw [d]; exact fun W h => h.2
 have bg : Hid (S1 bz) := by show S1 bz; rw [d]; exact ⟨c, rG⟩
 clear d;clear c bf hG rG bG;go_wp2_with (refine Qm _ _ rfl ?_)
 refine Stop.to ?_;refine Qe rfl 25 _ rfl q.cells rfl ?_;intro av be hG rG bG;have c := ce.go bg.out (bG.mono hG);obtain ⟨S2, d⟩ : ∃ S : World → Prop, S = (fun W => S1 W ∧ Row W av 25 q.cells) := ⟨_, rfl⟩;have an : St S2 := by rw [d]; infer_instance
 have D2 : Hid (∀ W, S2 W → S1 W) := by show ∀ W, _; rw [d]; exact fun W h => h.1
 have a6 : Hid (∀ W, S2 W → Row W av 25 q.cells) := by show ∀ W, _; rw [d]; exact fun W h => h.2
 have j : Hid (S2 be) := by show S2 be; rw [d]; exact ⟨c, rG⟩
 clear d;clear c bg hG rG bG;go_wp2_with fail
 refine (Adz be).mono ?_;rintro e cj ⟨rfl, bb⟩;have c := an.go j.out (bb);replace j := Lh c;clear c bb;go_wp2_with (refine wpList_load_row rfl 25 _ rfl am rfl 25 p.cells (0, 0) _ (ap.out _ (D2.out _ j.out)) Tryz.underlying25 rfl (by kernel_rfl) ?_)
 refine (AaF p tA ad ts fuel cj (ac.out _ (D1.out _ (D2.out _ j.out)))).mono ?_;rintro e ck ⟨he, bb⟩;have c := an.go j.out (bb);replace j := Lh c;clear c bb;rcases he with rfl | ⟨rfl, fp⟩
 · skip;go_wp2_with fail
   go_ret
   exact ⟨rfl, (o.out _ (D1.out _ (D2.out _ j.out)))⟩
 have ab := Lh fp;clear fp;go_wp2_with (refine Kf (by kernel_rfl) 25 _ rfl av rfl 25 q.cells (0, 0) _ (a6.out _ j.out) Tryz.underlying25 rfl (by kernel_rfl) ?_)
 refine (AaF q uA ai us fuel ck (ak.out _ (D1.out _ (D2.out _ j.out)))).mono ?_;rintro e b0 ⟨he, bb⟩;have c := an.go j.out (bb);replace j := Lh c;clear c bb;rcases he with rfl | ⟨rfl, fq⟩
 · skip;go_wp2_with fail
   go_ret
   exact ⟨rfl, (o.out _ (D1.out _ (D2.out _ j.out)))⟩
 have ax := Lh fq;clear fq;by_cases b4 : n < 0
 · skip;go_wp2_with fail
   go_ret
   exact ⟨rfl, (o.out _ (D1.out _ (D2.out _ j.out)))⟩
 have ct : 0 ≤ n := by omega
 by_cases b5 : n > 120
 · skip;go_wp2_with fail
   go_ret
   exact ⟨rfl, (o.out _ (D1.out _ (D2.out _ j.out)))⟩
 have cu : n ≤ 120 := by omega
 clear b4 b5;obtain ⟨z1, bs⟩ : ∃ z, z = Ze p (List.map IntsV.l ts) fuel := ⟨_, rfl⟩;obtain ⟨z2, bt⟩ : ∃ z, z = Ze q (List.map IntsV.l us) fuel := ⟨_, rfl⟩;have a5 := Lh bs.symm;have bk := Lh bt.symm;clear bs bt;by_cases ay : ¬ (z1 = 0 ∧ z2 = 0)
 · skip;go_wp2_with (refine wpList_load_row rfl 25 _ rfl am rfl 25 p.cells (0, 0) _ (ap.out _ (D2.out _ j.out)) Tryz.underlying25 rfl (by kernel_rfl) ?_)
   refine (Kx p tA ad ts fuel b0 (ae.out _ (D1.out _ (D2.out _ j.out))) (by have := ab.out.body; omega) (ac.out _ (D1.out _ (D2.out _ j.out))) (af.out _ (D1.out _ (D2.out _ j.out))) (by have := ab.out.tl; omega)).mono ?_;rintro e cl hN;obtain ⟨v1, rfl⟩ := Aha hN;rw [a5.out];have c := an.go j.out (hN.low);replace j := Lh c;clear c hN;go_wp2_with (refine wpList_load_row rfl 25 _ rfl av rfl 25 q.cells (0, 0) _ (a6.out _ j.out) Tryz.underlying25 rfl (by kernel_rfl) ?_)
   refine (Kx q uA ai us fuel cl (aq.out _ (D1.out _ (D2.out _ j.out))) (by have := ax.out.body; omega) (ak.out _ (D1.out _ (D2.out _ j.out))) (ar.out _ (D1.out _ (D2.out _ j.out))) (by have := ax.out.tl; omega)).mono ?_;rintro e cm hN;obtain ⟨v2, rfl⟩ := Aha hN;rw [bk.out];have c := an.go j.out (hN.low);replace j := Lh c;clear c hN;go_wp2_with (refine wpList_load_row rfl 25 _ rfl am rfl 25 p.cells (0, 0) _ (ap.out _ (D2.out _ j.out)) Tryz.underlying25 rfl (by kernel_rfl) ?_)
   refine (Kx p tA ad ts fuel cm (ae.out _ (D1.out _ (D2.out _ j.out))) (by have := ab.out.body; omega) (ac.out _ (D1.out _ (D2.out _ j.out))) (af.out _ (D1.out _ (D2.out _ j.out))) (by have := ab.out.tl; omega)).mono ?_;rintro e co hN;obtain ⟨v3, rfl⟩ := Aha hN;rw [a5.out];have c := an.go j.out (hN.low);replace j := Lh c;clear c hN;by_cases h1 : z1 = 0
   · have h2 : ¬ z2 = 0 := fun h => ay ⟨h1, h⟩
     have cq : (z2 != 0) = true := by simpa using h2
     subst h1;clear ay h2;go_wp2_with fail
     go_ret
     exact ⟨rfl, (o.out _ (D1.out _ (D2.out _ j.out)))⟩
   · have cp : (z1 != 0) = true := by simpa using h1
     clear ay h1;go_wp2_with fail
     go_ret
     exact ⟨rfl, (o.out _ (D1.out _ (D2.out _ j.out)))⟩
 obtain ⟨rfl, rfl⟩ := Classical.not_not.1 ay;clear ay;go_wp2_with (refine wpList_load_row rfl 25 _ rfl am rfl 25 p.cells (0, 0) _ (ap.out _ (D2.out _ j.out)) Tryz.underlying25 rfl (by kernel_rfl) ?_)
 refine (Kx p tA ad ts fuel b0 (ae.out _ (D1.out _ (D2.out _ j.out))) (by have := ab.out.body; omega) (ac.out _ (D1.out _ (D2.out _ j.out))) (af.out _ (D1.out _ (D2.out _ j.out))) (by have := ab.out.tl; omega)).mono ?_;rintro e az hN;obtain ⟨R, rfl, r1, SR, gR, mR⟩ := Ag9 hN a5.out ((o.out _ (D1.out _ (D2.out _ j.out)))).size;have bh := Lh SR;have c := an.go j.out (hN.low);obtain ⟨S3, d⟩ : ∃ S : World → Prop, S = (fun W => S2 W ∧ RnIn w.heap.size R W) := ⟨_, rfl⟩;have cf : St S3 := by rw [d]; infer_instance
 have D3 : Hid (∀ W, S3 W → S2 W) := by show ∀ W, _; rw [d]; exact fun W h => h.1
 have al : Hid (∀ W, S3 W → RnIn w.heap.size R W) := by show ∀ W, _; rw [d]; exact fun W h => h.2
 have ah : Hid (S3 az) := by show S3 az; rw [d]; exact ⟨c, r1⟩
 clear d;clear c j hN;go_wp2_with (refine wpList_load_row rfl 25 _ rfl av rfl 25 q.cells (0, 0) _ (a6.out _ (D3.out _ ah.out)) Tryz.underlying25 rfl (by kernel_rfl) ?_)
 refine (Kx q uA ai us fuel az (aq.out _ (D1.out _ (D2.out _ (D3.out _ ah.out)))) (by have := ax.out.body; omega) (ak.out _ (D1.out _ (D2.out _ (D3.out _ ah.out)))) (ar.out _ (D1.out _ (D2.out _ (D3.out _ ah.out)))) (by have := ax.out.tl; omega)).mono ?_;rintro e a0 hN;obtain ⟨V, rfl, r1, SV, gV, mV⟩ := Ag9 hN bk.out ((o.out _ (D1.out _ (D2.out _ (D3.out _ ah.out))))).size;have bj := Lh SV;have AB : Hid (Apart R V) := Uz (al.out _ ah.out) gV mV;have c := cf.go ah.out (hN.low);obtain ⟨S4, d⟩ : ∃ S : World → Prop, S = (fun W => S3 W ∧ RnIn w.heap.size V W) := ⟨_, rfl⟩;have cg : St S4 := by rw [d]; infer_instance
 have D4 : Hid (∀ W, S4 W → S3 W) := by show ∀ W, _; rw [d]; exact fun W h => h.1
 have au : Hid (∀ W, S4 W → RnIn w.heap.size V W) := by show ∀ W, _; rw [d]; exact fun W h => h.2
 have ag : Hid (S4 a0) := by show S4 a0; rw [d]; exact ⟨c, r1⟩
 clear d;clear c ah hN;go_wp2_with (refine wpList_load_row rfl 25 _ rfl am rfl 25 p.cells (0, 0) _ (ap.out _ (D2.out _ (D3.out _ (D4.out _ ag.out)))) Tryz.underlying25 rfl (by kernel_rfl) ?_)
 refine (Kx p tA ad ts fuel a0 (ae.out _ (D1.out _ (D2.out _ (D3.out _ (D4.out _ ag.out))))) (by have := ab.out.body; omega) (ac.out _ (D1.out _ (D2.out _ (D3.out _ (D4.out _ ag.out))))) (af.out _ (D1.out _ (D2.out _ (D3.out _ (D4.out _ ag.out))))) (by have := ab.out.tl; omega)).mono ?_;rintro e aj hN;obtain ⟨U, rfl, r1, SU, gU, mU⟩ := Ag9 hN a5.out ((o.out _ (D1.out _ (D2.out _ (D3.out _ (D4.out _ ag.out)))))).size;have bi := Lh SU;have AC : Hid (Apart R U) := Uz (al.out _ (D4.out _ ag.out)) gU mU;have BC : Hid (Apart V U) := Uz (au.out _ ag.out) gU mU;have c := cg.go ag.out (hN.low);obtain ⟨S5, d⟩ : ∃ S : World → Prop, S = (fun W => S4 W ∧ RnIn w.heap.size U W) := ⟨_, rfl⟩;have cv : St S5 := by rw [d]; infer_instance
 have D5 : Hid (∀ W, S5 W → S4 W) := by show ∀ W, _; rw [d]; exact fun W h => h.1
 have a9 : Hid (∀ W, S5 W → RnIn w.heap.size U W) := by show ∀ W, _; rw [d]; exact fun W h => h.2
 have aw : Hid (S5 aj) := by show S5 aj; rw [d]; exact ⟨c, r1⟩
 clear d;clear c ag hN;have bm : Tri w.heap.size p q (List.map IntsV.l ts) (List.map IntsV.l us) fuel 0 R V U aj := ⟨(al.out _ (D4.out _ (D5.out _ aw.out))), (au.out _ (D5.out _ aw.out)), (a9.out _ aw.out), bh.out, bj.out, bi.out, AB.out, AC.out, BC.out⟩;have bl := (o.out _ (D1.out _ (D2.out _ (D3.out _ (D4.out _ (D5.out _ aw.out))))));obtain ⟨nn, rfl⟩ : ∃ m : Nat, n = (m : Int) := ⟨n.toNat, by omega⟩;obtain ⟨g1, ba⟩ : ∃ g, g = R.g := ⟨_, rfl⟩;obtain ⟨g2, bc⟩ : ∃ g, g = V.g := ⟨_, rfl⟩;obtain ⟨g3, bd⟩ : ∃ g, g = U.g := ⟨_, rfl⟩;rw [← ba, ← bc, ← bd];have hrel : ∃ (k : Nat) (A B C : RnV), (.int .i64 0 : Value) = .int .i64 (k : Int) ∧ k ≤ nn ∧ (A.g = g1 ∧ B.g = g2 ∧ C.g = g3) ∧ Tri w.heap.size p q (List.map IntsV.l ts) (List.map IntsV.l us) fuel k A B C aj ∧ Below w.heap.size w aj := ⟨0, R, V, U, rfl, Nat.zero_le _, ⟨ba.symm, bc.symm, bd.symm⟩, bm, bl⟩;clear bm bl ba bc bd bh bj bi AB AC BC aw;go_wp2_with fail
 go_loopw [20] (fun i W => ∃ (k : Nat) (A B C : RnV), i = .int .i64 (k : Int) ∧ k ≤ nn ∧ (A.g = g1 ∧ B.g = g2 ∧ C.g = g3) ∧ Tri w.heap.size p q (List.map IntsV.l ts) (List.map IntsV.l us) fuel k A B C W ∧ Below w.heap.size w W) (fun i _ => nn - (intOf i).toNat)
 case atStart => exact hrel
 case round =>
  obtain ⟨k, A, B, C, rfl, hk, ⟨e1, e2, e3⟩, hT, hL⟩ := hrel;have HT := Lh hT;have HL := Lh hL;clear hT hL;by_cases b3 : k < nn
  · skip;have cn : (k : Int) < (nn : Int) := by omega
    have v := Lh (Xt A wr HT.out.r HT.out.rs (HL.out).size (by have := ab.out.body; omega));rw [e1] at v;go_wp2_with fail
    refine v.out.mono ?_;clear v;rintro e w1 ⟨A2, rfl, n1⟩;have br : w.heap.size ≤ w1.heap.size := Lf (HL.out).size n1.low.size;have v := Lh (Xt C w1 (HT.out.t1 n1) HT.out.tt br (by have := ab.out.body; omega));rw [e3] at v;rw [HT.out.len] at v;have N1 := Lh n1;clear n1;generalize decide (k < A.xs.length) = b at v ⊢;go_wp2_with fail
    refine v.out.mono ?_;clear v;rintro e w2 ⟨C2, rfl, n2⟩;have cc : w.heap.size ≤ w2.heap.size := Lf br n2.low.size;have v := Lh (Xt B w2 (HT.out.s2 N1.out n2) HT.out.ss cc (by have := ax.out.body; omega));rw [e2] at v;have N2 := Lh n2;clear n2;go_wp2_with fail
    refine v.out.mono ?_;clear v;rintro e w3 ⟨B2, rfl, n3⟩;have N3 := Lh n3;clear n3;cases b
    · skip;go_wp2_with fail
      go_roundw
      case rel => exact ⟨k + 1, A2, B2, C2, by go_num, by omega, ⟨N1.out.g.trans e1, N3.out.g.trans e2, N2.out.g.trans e3⟩, HT.out.step N1.out N2.out N3.out, HL.out.trans (((N1.out.low.trans N2.out.low).trans N3.out.low))⟩
      case measure => simp [intOf]; omega
    · skip;go_wp2_with fail
      go_roundw
      case rel => exact ⟨k + 1, A2, B2, C2, by go_num, by omega, ⟨N1.out.g.trans e1, N3.out.g.trans e2, N2.out.g.trans e3⟩, HT.out.step N1.out N2.out N3.out, HL.out.trans (((N1.out.low.trans N2.out.low).trans N3.out.low))⟩
      case measure => simp [intOf]; omega
  · skip;obtain rfl : k = nn := by omega
    clear b3;obtain ⟨S6, d⟩ : ∃ S : World → Prop, S = (fun W => Below w.heap.size w W ∧ Tri w.heap.size p q (List.map IntsV.l ts) (List.map IntsV.l us) fuel k A B C W) := ⟨_, rfl⟩;have ch : St S6 := by rw [d]; infer_instance
    have o : Hid (∀ W, S6 W → Below w.heap.size w W) := by show ∀ W, _; rw [d]; exact fun W h => h.1
    have x : Hid (∀ W, S6 W → Tri w.heap.size p q (List.map IntsV.l ts) (List.map IntsV.l us) fuel k A B C W) := by show ∀ W, _; rw [d]; exact fun W h => h.2
    have a3 : Hid (S6 wr) := by show S6 wr; rw [d]; exact ⟨HL.out, HT.out⟩
    clear d;have HR := Lh HT.out;clear HL HT;go_wp2_with fail
    have v := Lh (Yl A wr ((x.out _ a3.out)).r ((x.out _ a3.out)).rs (by have := ab.out.body; omega));rw [e1] at v;refine v.out.mono ?_;clear v;rintro e a1 ⟨c1, rfl, bu, -, hd, bb⟩;have b1 := Lh hd;clear hd;have c := ch.go a3.out (bb);obtain ⟨S7, d⟩ : ∃ S : World → Prop, S = (fun W => S6 W ∧ CpOk W c1) := ⟨_, rfl⟩;have ci : St S7 := by rw [d]; infer_instance
    have D7 : Hid (∀ W, S7 W → S6 W) := by show ∀ W, _; rw [d]; exact fun W h => h.1
    have a7 : Hid (∀ W, S7 W → CpOk W c1) := by show ∀ W, _; rw [d]; exact fun W h => h.2
    have a4 : Hid (S7 a1) := by show S7 a1; rw [d]; exact ⟨c, bu⟩
    clear d;clear c a3 bb bu;go_wp2_with fail
    have v := Lh (Yl C a1 ((x.out _ (D7.out _ a4.out))).t ((x.out _ (D7.out _ a4.out))).tt (by have := ab.out.body; omega));rw [e3] at v;refine v.out.mono ?_;clear v;rintro e a2 ⟨c2, rfl, bv, -, hd, bb⟩;have b2 := Lh hd;clear hd;have c := ci.go a4.out (bb);obtain ⟨S8, d⟩ : ∃ S : World → Prop, S = (fun W => S7 W ∧ CpOk W c2) := ⟨_, rfl⟩;have bw : St S8 := by rw [d]; infer_instance
    have D8 : Hid (∀ W, S8 W → S7 W) := by show ∀ W, _; rw [d]; exact fun W h => h.1
    have a8 : Hid (∀ W, S8 W → CpOk W c2) := by show ∀ W, _; rw [d]; exact fun W h => h.2
    have aa : Hid (S8 a2) := by show S8 a2; rw [d]; exact ⟨c, bv⟩
    clear d;clear c a4 bb bv;go_wp2_with fail
    have v := Lh (Aad c1 c2 a2 (a7.out _ (D8.out _ aa.out)) (a8.out _ aa.out));refine v.out.mono ?_;clear v;rintro e ao ⟨rfl, bb⟩;rw [show XP c1 c2 = true from sameC_iff.2 (by rw [b1.out, b2.out, HR.out.alike])];have c := bw.go aa.out (bb);replace aa := Lh c;clear c bb;have hn : Hid (C.n = A.n) := by show _ = _; rw [HR.out.rs.n, HR.out.tt.n, HR.out.len]
    have cr : (B.n : Int) ≤ (B.xs.length : Int) := by have := HR.out.ss.n; omega
    have cs : (B.xs.length : Int) ≤ 20000 := by have := HR.out.ss.xl; omega
    go_wp2_with fail
    have v := Lh (KI A.g A.cells (A.n : Int) ao ((x.out _ (D7.out _ (D8.out _ aa.out)))).r.row rfl);rw [e1] at v;refine v.out.mono ?_;clear v;rintro e w' ⟨rfl, hw⟩;replace hw := hw.symm;subst hw;go_wp2_with fail
    have v := Lh (KI C.g C.cells (C.n : Int) ao ((x.out _ (D7.out _ (D8.out _ aa.out)))).t.row rfl);rw [e3, hn.out] at v;refine v.out.mono ?_;clear v;rintro e w' ⟨rfl, hw⟩;replace hw := hw.symm;subst hw;go_wp2_with fail
    have v := Lh (KI B.g B.cells (B.n : Int) ao ((x.out _ (D7.out _ (D8.out _ aa.out)))).s.row rfl);rw [e2] at v;refine v.out.mono ?_;clear v;rintro e w' ⟨rfl, hw⟩;replace hw := hw.symm;subst hw;go_wp2_with fail
    have v := Lh (Y9 B ao ((x.out _ (D7.out _ (D8.out _ aa.out)))).s (by omega) (by omega));rw [e2] at v;refine v.out.mono ?_;clear v;rintro e bx ⟨rfl, bb⟩;have c := bw.go aa.out (bb);replace aa := Lh c;clear c bb;go_wp2_with fail
    have v := Lh (KI B.g B.cells (B.n : Int) bx ((x.out _ (D7.out _ (D8.out _ aa.out)))).s.row rfl);rw [e2] at v;refine v.out.mono ?_;clear v;rintro e w' ⟨rfl, hw⟩;replace hw := hw.symm;subst hw;go_wp2_with fail
    go_ret
    exact ⟨Q4 (decide_eq_true (by omega)).symm, (o.out _ (D7.out _ (D8.out _ aa.out)))⟩
end Go.Proofs.YtkoikjnlpifbjaaGreat
