/- Lemmas for RunnerJustP. -/
import Derived.Test.YtkoikjnlpifbjaaGreatZb1
import Derived.Test.YtkoikjnlpifbjaaGreatZb41
import Derived.Test.YtkoikjnlpifbjaaGreatZb13
import Derived.Test.YtkoikjnlpifbjaaGreatZb20
import Derived.Test.YtkoikjnlpifbjaaGreatZb37
set_option linter.unusedVariables false
set_option linter.unusedSimpArgs false
set_option maxRecDepth 100000
set_option maxHeartbeats 16000000
namespace Go.Proofs.YtkoikjnlpifbjaaGreat
open Go.RowKit Go.Deep
def tvR (g : Nat) : IntsV := ⟨some ⟨g, 0, none⟩, 0, []⟩
theorem Aix (g : Nat) (W : World) : ∀ x ∈ [tvR g], x.ok W := fun x hx => by
 rw [L3.1 hx];exact ⟨Nat.le_refl _, by unfold maxLen; simp [tvR], fun h => (by cases h), fun j u b => by simp [tvR, Qj] at b, by simp [tvR]⟩
theorem AkU {g : Nat} {W : World} (r : Row W g 65 (bodyR.flatMap Nd.cells).toArray) : (pR g).ok W :=
 ⟨by unfold InI pR; dsimp only; omega, Nat.le_refl _, Nat.zero_le _, fun _ => rfl, Rd.nil _ _, by simp [pR], by simp [pR, bodyR], by unfold maxLen; simp [pR], fun h => (by cases h), AbX r, by simp [pR, bodyR, InI]⟩
theorem Ag6 (g : Nat) : Ze (pR g) [[]] 9 = 0 := by
 unfold Ze;rw [if_neg (by rw [checkP_ok.2 ⟨_, AcX g⟩]; simp)];show ZR 0 [[]] 9 = 0;decide
theorem Ag7 (g : Nat) : Ze (pR g) [] 9 = 18 := by
 unfold Ze;rw [if_neg (by rw [checkP_ok.2 ⟨_, AcX g⟩]; simp)];show ZR 0 [] 9 = 18;decide
theorem Ad7 (w : World) : Calls Tryz.prog 6 #[] w fun e w' => e = .returned (.bool true) ∧ Below w.heap.size w w' := by
 go_enter Tryz.func6, Tryz.ntmps6
 obtain ⟨S0, bl, a3, q⟩ := Ald (w := w) (fun W => Below w.heap.size w W) (Below.refl _ _);go_wp2_with (refine ZE _ _ _ rfl ?_)
 refine Stop.to ?_;refine Qz rfl 23 3 _ rfl 65 (bodyR.flatMap Nd.cells).toArray (Z6 Tryz.underlying23 Ajh (by decide) (by decide) (by kernel_rfl)) ?_;intro j ay m p o;have b := bl.go a3.out (o.mono m);obtain ⟨S1, bm, a4, D1, a1⟩ := Ev (w := ay) S0 (fun W => Row W j 65 (bodyR.flatMap Nd.cells).toArray) b (p);clear b a3 m p o;go_wp2_with (refine QE _ rfl ?_)
 refine Stop.to ?_;refine Qi rfl 25 rfl _ _ AiJ rfl ?_;intro ag bz m p o;go_wp2_with (refine Qp _ _ _ rfl ?_)
 refine Stop.to ?_;refine Qk rfl 25 _ _ rfl ag #[.int .i64 0, .slice none 0 0, .slice (some ⟨j, 0, none⟩) 3 3] rfl rfl 25 _ p (by kernel_rfl) rfl (by simp [Value.oneCell']) ?_;intro bh rH oH;have bH : Below (ay).heap.size ay bh := (o.mono m).trans (oH.below m);have b := bm.go a4.out (bH);obtain ⟨S2, bn, ar, D2, ap⟩ := Ev (w := bh) S1 (fun W => Row W ag 25 #[.int .i64 0, .slice none 0 0, .slice (some ⟨j, 0, none⟩) 3 3]) b (rH);clear b a4 m p o rH oH bH;have z : Hid (∀ W, S2 W → (pR j).ok W) := by show ∀ W, _; exact fun W hW => AkU (a1.out _ (D2.out _ hW))
 go_wp2_with (first | (refine wpList_load_row rfl 25 _ rfl ag rfl 25 #[.int .i64 0, .slice none 0 0, .slice (some ⟨j, 0, none⟩) 3 3] (0, 0) _ (ap.out _ ar.out) Tryz.underlying25 rfl (by kernel_rfl) ?_) | (refine ZE _ _ _ rfl ?_))
 refine Stop.to ?_;refine Qz rfl 22 0 _ rfl 3 #[] (fun W => by kernel_rfl) ?_;intro ak bt m p o;have b := bn.go ar.out (o.mono m);obtain ⟨S3, bo, a5, D3, bu⟩ := Ev (w := bt) S2 (fun W => Row W ak 3 #[]) b (p);clear b ar m p o;go_wp2_with (refine ZE _ _ _ rfl ?_)
 refine Stop.to ?_;refine Qz rfl 26 1 _ rfl 22 (Ji [tvR ak]).toArray (Z6 Tryz.underlying26 AfB (by decide) (by decide) (by kernel_rfl)) ?_;intro a2 bi m p o;have b := bo.go a5.out (o.mono m);obtain ⟨S4, bd, ae, D4, az⟩ := Ev (w := bi) S3 (fun W => Row W a2 22 (Ji [tvR ak]).toArray) b (p);clear b a5 m p o;go_wp2_with fail
 refine (Ab4 (pR j) (some ⟨a2, 0, none⟩) 1 [tvR ak] 9 bi (z.out _ (D3.out _ (D4.out _ ae.out))) (by show 3 ≤ 40; omega) (AbX (az.out _ ae.out)) (Aix _ _) (by simp)).mono ?_;rintro e an ⟨-, y, u⟩;obtain ⟨c, rfl, -, hd⟩ := y (Ag6 j);have Hc : Hid (c.mts.length = 5 ∧ c.sc = ⟨0, 5, 0⟩) := AkF (w := w) (hd Yf (AcX j));have b := bd.go ae.out (u);replace ae := Lv b;clear b u y hd;go_wp2_with (refine QE _ rfl ?_)
 refine Stop.to ?_;refine Qi rfl 38 rfl _ _ (KR _) rfl ?_;intro af bw m p o;go_wp2_with (refine Qp _ _ _ rfl ?_)
 refine Stop.to ?_;refine Qk rfl 38 _ _ rfl af c.cells rfl rfl 38 _ p (by kernel_rfl) rfl (by simp [CpV.cells, Value.oneCell']) ?_;intro ao rH oH;have bH : Below (an).heap.size an ao := (o.mono m).trans (oH.below m);have b := bd.go ae.out (bH);obtain ⟨S5, bp, au, D5, ad⟩ := Ev (w := ao) S4 (fun W => Row W af 38 c.cells) b (rH);clear b ae m p o rH oH bH;go_wp2_with (first | (refine wpList_load_row rfl 25 _ rfl ag rfl 25 #[.int .i64 0, .slice none 0 0, .slice (some ⟨j, 0, none⟩) 3 3] (0, 0) _ (ap.out _ (D3.out _ (D4.out _ (D5.out _ au.out)))) Tryz.underlying25 rfl (by kernel_rfl) ?_) | (refine ZE _ _ _ rfl ?_))
 refine Stop.to ?_;refine Qz rfl 22 0 _ rfl 3 #[] (fun W => by kernel_rfl) ?_;intro aa be m p o;have b := bp.go au.out (o.mono m);obtain ⟨S6, bq, a6, D6, bv⟩ := Ev (w := be) S5 (fun W => Row W aa 3 #[]) b (p);clear b au m p o;go_wp2_with (refine ZE _ _ _ rfl ?_)
 refine Stop.to ?_;refine Qz rfl 26 1 _ rfl 22 (Ji [tvR aa]).toArray (Z6 Tryz.underlying26 AfB (by decide) (by decide) (by kernel_rfl)) ?_;intro am ai m p o;have b := bq.go a6.out (o.mono m);obtain ⟨S7, br, ah, D7, a0⟩ := Ev (w := ai) S6 (fun W => Row W am 22 (Ji [tvR aa]).toArray) b (p);clear b a6 m p o;go_wp2_with fail
 refine (AbP (pR j) (some ⟨am, 0, none⟩) 1 [tvR aa] 9 ai (z.out _ (D3.out _ (D4.out _ (D5.out _ (D6.out _ (D7.out _ ah.out)))))) (by show 3 ≤ 999; omega) (AbX (a0.out _ ah.out)) (Aix _ _) (by simp)).mono ?_;rintro e aj ⟨-, y, u⟩;obtain ⟨R, rfl, hR, ⟨q1, q2, q3⟩, ba, hf, aw, bc, av, a8, bk⟩ := y (Ag6 j);have HS : Hid (RunS (pR j) [[]] 9 0 R) := ⟨⟨q1, q2, q3⟩, ba, hf, aw, by rw [av]; omega, by rw [a8, av]; rfl, bc, Ag6 _⟩;obtain ⟨lo, ab⟩ : ∃ lo, lo = (ai).heap.size := ⟨_, rfl⟩;have bj : Hid (w.heap.size ≤ lo) := by show _ ≤ _; rw [ab]; exact ((q.out _ (D1.out _ (D2.out _ (D3.out _ (D4.out _ (D5.out _ (D6.out _ (D7.out _ ah.out))))))))).size
 have a7 : Hid (lo ≤ aj.heap.size) := by show _ ≤ _; rw [ab]; exact u.size
 rw [← ab] at hR;have Hx : Hid (R.xs.length = 5) := by show _ = _; rw [← Lz (f := DlV.d), aw Yf (AcX j)]; exact congrArg List.length AiP
 clear q1 q2 q3 ba hf aw bc av a8 bk ab;have b := br.go ah.out (u);obtain ⟨S8, bs, t, D8, x, aq⟩ := Aja (w := aj) S7 (fun W => RnIn lo R W) (fun W => lo ≤ W.heap.size) b (hR) (a7.out);clear b ah u y hR;go_wp2_with (refine wpList_load_row rfl 25 _ rfl ag rfl 25 #[.int .i64 0, .slice none 0 0, .slice (some ⟨j, 0, none⟩) 3 3] (0, 0) _ (ap.out _ (D3.out _ (D4.out _ (D5.out _ (D6.out _ (D7.out _ (D8.out _ t.out))))))) Tryz.underlying25 rfl (by kernel_rfl) ?_)
 refine (AbP (pR j) none 0 [] 9 aj (z.out _ (D3.out _ (D4.out _ (D5.out _ (D6.out _ (D7.out _ (D8.out _ t.out))))))) (by show 3 ≤ 999; omega) (Rd.nil _ _) (by simp) (by simp)).mono ?_;rintro e bf ⟨a9, -, u⟩;have h0 := a9 (by rw [show List.map IntsV.l [] = [] from rfl, Ag7]; decide);rw [show List.map IntsV.l [] = [] from rfl, Ag7] at h0;subst h0;have b := bs.go t.out (u);replace t := Lv b;clear b u a9;go_wp2_with fail
 refine (Abi R bf (x.out _ t.out) HS.out (aq.out _ t.out) (by show 3 ≤ 40; omega)).mono ?_;rintro e w9 ⟨R2, rfl, hN⟩;rw [Hx.out, show decide (0 < 5) = true from rfl];have h1 := hN.rn;have h2 := hN.tk _ _ _ (ad.out _ (D6.out _ (D7.out _ (D8.out _ t.out)))) (by decide) (by decide);have h3 := ((q.out _ (D1.out _ (D2.out _ (D3.out _ (D4.out _ (D5.out _ (D6.out _ (D7.out _ (D8.out _ t.out)))))))))).trans (hN.low.mono bj.out);have Hg : Hid (R2.g = R.g) := hN.g;have H1 : Hid (RunS (pR j) [[]] 9 1 R2) := hN.s;have H5 : Hid (R2.xs.length = 5) := by show _ = _; rw [hN.xs, Hx.out]
 have al : Hid (R2.n = 1) := by show _ = _; rw [H1.out.n, H5.out]; rfl
 obtain ⟨S9, ax, k, q, ad, x⟩ := Aja (w := w9) (fun W => Below w.heap.size w W) (fun W => Row W af 38 c.cells) (fun W => RnIn lo R2 W) (h3) (h2) (h1);clear h1 h2 h3 hN t;have c5 := ((ad.out _ k.out).cellv (i := 5) (v := .slice c.mA 5 c.mcap) (by show some (Value.slice c.mA c.mts.length c.mcap) = _; rw [Hc.out.1]));have c6 := ((ad.out _ k.out).cellv (i := 6) (v := .int .i64 0) (by show some (Value.int .i64 c.sc.alive) = _; rw [Hc.out.2]));have c7 := ((ad.out _ k.out).cellv (i := 7) (v := .int .i64 5) (by show some (Value.int .i64 c.sc.killed) = _; rw [Hc.out.2]));have c8 := ((ad.out _ k.out).cellv (i := 8) (v := .int .i64 0) (by show some (Value.int .i64 c.sc.timeout) = _; rw [Hc.out.2]));go_wp2_with fail
 have Hd := Lv (Er R2.g R2.cells 1 w9 (x.out _ k.out).row (by show some (Value.int .i64 (R2.n : Int)) = _; rw [al.out]; rfl));rw [Hg.out] at Hd;refine Hd.out.mono ?_;clear Hd;rintro e w' ⟨rfl, hw⟩;replace hw := hw.symm;subst hw;clear c5 c6 c7 c8;go_wp2_with fail
 have Hd := Lv (EI R2 w9 (x.out _ k.out) (by rw [al.out, H5.out]; omega) (by rw [H5.out]; omega));rw [Hg.out] at Hd;refine Hd.out.mono ?_;rintro e bg ⟨rfl, u⟩;rw [show ((R2.xs.length : Int) - (R2.n : Int)) = 4 from by rw [H5.out, al.out]; rfl];have b := ax.go k.out (u);replace k := Lv b;clear b u Hd;go_wp2_with fail
 have Hd := Lv (AaS R2 bg (x.out _ k.out) H1.out (by show 3 ≤ 40; omega));rw [Hg.out] at Hd;refine Hd.out.mono ?_;rintro e ac ⟨c2, rfl, -, -, hd, u⟩
 have hm : c2.mts.length = 1 := by
  have h := congrArg (fun d => d.muts.length) hd;have h2 : c2.muts.length = c2.mts.length := Lz _;rw [← h2]; refine h.trans ?_;show (List.map _ ((R2.xs.map DlV.d).take R2.n)).length = 1;rw [Lz, L7, Lz, H5.out, al.out]; rfl
 have hf : ∀ W, (Instr.field 38 (.agg c2.cells) 3).run Tryz.prog W = .ok (.slice c2.mA 1 c2.mcap) W := fun W => by rw [← hm]; kernel_rfl
 clear hd hm;have b := ax.go k.out (u);replace k := Lv b;clear b u Hd;go_wp2_with fail
 clear hf;refine (AdA ac).mono ?_;rintro e w' ⟨rfl, hw⟩;replace hw := hw.symm;subst hw;go_wp2_with fail
 refine (AcV ac).mono ?_;rintro e w' ⟨rfl, hw⟩;replace hw := hw.symm;subst hw;go_wp2_with fail
 refine (Adi ac).mono ?_;rintro e w' ⟨rfl, hw⟩;replace hw := hw.symm;subst hw;go_wp2_with fail
 refine (AcC ac).mono ?_;rintro e bx ⟨rfl, u⟩;have hf : ∀ W, (Instr.field 38 (.agg cp0.cells) 1).run Tryz.prog W = .ok (.slice none 0 0) W := fun W => by kernel_rfl
 have b := ax.go k.out (u);replace k := Lv b;clear b u;go_wp2_with fail
 go_ret
 exact ⟨rfl, (q.out _ k.out)⟩
def Agf (p : PgV) (ts : List IntsV) (fuel : Int) : Bool := Age p && (Ew ts && (decide (p.body.length ≤ 40) && (decide (ts.length ≤ 5) && (decide (fuel ≤ 200) || decide (10000 < fuel)))))
theorem Ajc {p : PgV} {ts : List IntsV} {fuel : Int} (h : Agf p ts fuel = true) : p.body.length ≤ 40 ∧ p.V.length ≤ 20 ∧ ts.length ≤ 5 ∧ (∀ x ∈ ts, x.l.length ≤ 40) ∧ (fuel ≤ 200 ∨ 10000 < fuel) := by
 unfold Agf Age Ew at h;simp only [Nc, Bool.or_eq_true, decide_eq_true_eq] at h;exact ⟨h.2.2.1, h.1.2, h.2.2.2.1, h.2.1.2, h.2.2.2.2⟩
theorem Agc (p : PgV) (A : Option Addr) (cap : Nat) (ts : List IntsV) (fuel : Int) (w : World) (hr : Rd w A (Ji ts)) : Calls Tryz.prog 23 #[.agg p.cells, .slice A ts.length cap, .int .i64 fuel] w fun e w' => e = .returned (.bool (Agf p ts fuel)) ∧ Below w.heap.size w w' := by
 have Hr := Lv hr;clear hr;have c : Hid (∀ {β : Bool}, (Age p && (Ew ts && (decide (p.body.length ≤ 40) && (decide (ts.length ≤ 5) && (decide (fuel ≤ 200) || decide (10000 < fuel)))))) = β → Agf p ts fuel = β) := fun h => h
 go_enter Tryz.func23, Tryz.ntmps23
 go_wp2_with (refine Qm _ _ rfl ?_)
 refine Stop.to ?_;refine Qe rfl 25 _ rfl p.cells rfl ?_;intro G Gw Gh k Gb;have l := (Below.refl w.heap.size w).trans (Gb.mono Gh);clear Gb Gh;go_wp2_with (refine wpList_load_row rfl 25 _ rfl G rfl 25 p.cells (0, 0) _ k Tryz.underlying25 rfl (by kernel_rfl) ?_)
 refine (Ajd p Gw).mono ?_;rintro e w1 ⟨rfl, z⟩;replace k := k.below z k.lt;replace l := l.trans (z.mono l.size);have j := Lv l;have u := Ahv A cap ts w1 (Hr.out.go l);obtain ⟨n, hn⟩ : ∃ n, n = ts.length := ⟨_, rfl⟩;rw [← hn] at c u ⊢;have c2 := k.cellv (i := 2) (v := .slice p.ba p.body.length p.bcap) rfl;obtain ⟨m, hm⟩ : ∃ m, m = p.body.length := ⟨_, rfl⟩;rw [← hm] at c c2;obtain ⟨q, hq⟩ : ∃ q, q = Age p := ⟨_, rfl⟩;rw [← hq] at c ⊢;obtain ⟨q2, t⟩ : ∃ q, q = Ew ts := ⟨_, rfl⟩;rw [← t] at c u;have HT := Lv u;clear z l k Hr hn hm hq t u;cases q
 · go_wp2_with fail
   go_ret
   exact ⟨ZU (c.out (by simp)), j.out⟩
 go_wp2_with fail
 refine HT.out.mono ?_;rintro e w2 ⟨rfl, rfl⟩;clear HT;cases q2
 · go_wp2_with fail
   go_ret
   exact ⟨ZU (c.out (by simp)), j.out⟩
 by_cases b : m ≤ 40;rotate_left
 · have aa : ¬ (m : Int) ≤ 40 := by omega
   have ac : 40 < (m : Int) := by omega
   have H1 := Lv b;clear b;go_wp2_with fail
   go_ret
   exact ⟨ZU (c.out (by have b := H1.out; simp [b])), j.out⟩
 have aa : (m : Int) ≤ 40 := by omega
 by_cases o : n ≤ 5;rotate_left
 · have ab : ¬ (n : Int) ≤ 5 := by omega
   have ad : 5 < (n : Int) := by omega
   have H2 := Lv o;clear b o;go_wp2_with fail
   go_ret
   exact ⟨ZU (c.out (by have o := H2.out; simp [o])), j.out⟩
 have ab : (n : Int) ≤ 5 := by omega
 have g := Lv (And.intro b o);clear b o;by_cases d : fuel ≤ 200
 · have x := Lv d;go_wp2_with fail
   go_ret
   exact ⟨ZU (c.out (by have b := g.out; have d := x.out; simp [b.1, b.2, d])), j.out⟩
 have ae : 200 < fuel := by omega
 by_cases s : 10000 < fuel
 · have y := Lv s;clear d;go_wp2_with fail
   go_ret
   exact ⟨ZU (c.out (by have b := g.out; have d := y.out; simp [b.1, b.2, d])), j.out⟩
 · have af : fuel ≤ 10000 := by omega
   have x := Lv d;have y := Lv s;clear d s;go_wp2_with fail
   go_ret
   exact ⟨ZU (c.out (by have b := g.out; have d := x.out; have s := y.out; simp only [b.1, b.2, d, s, decide_true, decide_false, Bool.true_and, Bool.or_self])), j.out⟩
structure FewR (p : PgV) (ts : List IntsV) (fuel : Int) : Prop where
 v : Agf p ts fuel = true
 body : p.body.length ≤ 20
 tl : ts.length ≤ 3
theorem Agd (p : PgV) (A : Option Addr) (cap : Nat) (ts : List IntsV) (fuel : Int) (w : World) (hr : Rd w A (Ji ts)) : Calls Tryz.prog 7 #[.agg p.cells, .slice A ts.length cap, .int .i64 fuel] w fun e w' => (e = .returned (.bool false) ∨ (e = .returned (.bool true) ∧ FewR p ts fuel)) ∧ Below w.heap.size w w' := by
 have y := Lv hr;clear hr;go_enter Tryz.func7, Tryz.ntmps7
 go_wp2_with (refine Qm _ _ rfl ?_)
 refine Stop.to ?_;refine Qe rfl 25 _ rfl p.cells rfl ?_;intro G Gw t d s;have h := (Below.refl w.heap.size w).trans (s.mono t);clear s t;go_wp2_with (refine wpList_load_row rfl 25 _ rfl G rfl 25 p.cells (0, 0) _ d Tryz.underlying25 rfl (by kernel_rfl) ?_)
 refine (Agc p A cap ts fuel Gw (y.out.go h)).mono ?_;rintro e w1 ⟨rfl, j⟩;replace d := d.below j d.lt;replace h := h.trans (j.mono h.size);have g := Lv h;have c2 := d.cellv (i := 2) (v := .slice p.ba p.body.length p.bcap) rfl;obtain ⟨q, o⟩ : ∃ q, q = Agf p ts fuel := ⟨_, rfl⟩;rw [← o];have u : Hid (q = true → (p.body.length : Int) ≤ 20 → (ts.length : Int) ≤ 3 → FewR p ts fuel) := fun a b c => ⟨o ▸ a, by omega, by omega⟩;obtain ⟨n, l⟩ : ∃ n : Nat, n = ts.length := ⟨_, rfl⟩;obtain ⟨m, k⟩ : ∃ m : Nat, m = p.body.length := ⟨_, rfl⟩;rw [← l, ← k] at u;rw [← l];rw [← k] at c2;clear j h d y o l k;cases q
 · go_wp2_with fail
   go_ret
   exact ⟨(.inl rfl), g.out⟩
 by_cases h1 : (m : Int) ≤ 20;rotate_left
 · have z : 20 < (m : Int) := by omega
   go_wp2_with fail
   go_ret
   exact ⟨(.inl rfl), g.out⟩
 by_cases h2 : (n : Int) ≤ 3;rotate_left
 · have aa : 3 < (n : Int) := by omega
   go_wp2_with fail
   go_ret
   exact ⟨(.inl rfl), g.out⟩
 have x := Lv (u.out rfl h1 h2);by_cases h3 : fuel ≤ 80
 · go_wp2_with fail
   go_ret
   exact ⟨(.inr ⟨rfl, x.out⟩), g.out⟩
 have ab : 80 < fuel := by omega
 by_cases h4 : 10000 < fuel
 · go_wp2_with fail
   go_ret
   exact ⟨(.inr ⟨rfl, x.out⟩), g.out⟩
 · have ac : fuel ≤ 10000 := by omega
   go_wp2_with fail
   go_ret
   refine ⟨.inl ?_, g.out⟩;simp [h4]; omega
end Go.Proofs.YtkoikjnlpifbjaaGreat
namespace Go.Proofs.YtkoikjnlpifbjaaGreat
open Go.ChangeShapes Go.WideShapes Go.RowKit Go.Deep
structure TsV where
 A : Option Addr
 cap : Nat
 l : List IntsV
def TsV.val (t : TsV) : Value := .slice t.A t.l.length t.cap
structure TsRaw (W : World) (t : TsV) : Prop where
 len : t.l.length ≤ t.cap
 cap : t.cap ≤ maxLen
 nil : t.A = none → t.cap = 0
 rd : Rd W t.A (Ji t.l)
 ok : ∀ x ∈ t.l, x.ok W
section
variable {H : Type} {enc : TypeId × Value → H} {w : World} {base : Nat} {spare : Nat → Bool} {held : Bool}
theorem AdJ {r : Go.Reach} {b0 : Nat} {v : Value} {d : DataW H} {p : List MemPlace} (hv : Value.okWide Tryz.prog w r b0 26 v) (h : DataW.Trod enc Tryz.prog w base spare held 26 v d p) :
 ∃ t : TsV, TsRaw w t ∧ v = t.val := by
 obtain ⟨a, len, b, rfl⟩ := okWide_slice Tryz.underlying26 hv;obtain ⟨i, q⟩ := h;obtain ⟨A, c, l, e, j, k, m, n, o⟩ := AdI q;have g : [Value.slice a len b] = [.slice A l.length c] := e;injection g with g;injection g with e3 e4 e5;subst e3 e4 e5;exact ⟨⟨_, _, l⟩, ⟨j, k, m, n, o⟩, rfl⟩
end
end Go.Proofs.YtkoikjnlpifbjaaGreat
namespace Go.Proofs.YtkoikjnlpifbjaaGreat
open Go.RowKit Go.Deep
theorem Afi {P : Program} {md : Region.Mode} {o : Array Oper} {Q : Exit → Act → World → Prop} {S : World → Prop} {n : Nat} {L : Array Bool} {f : MtV → Nat → Act} {F : MtV → Nat → World → Prop} {G : Prop}
 (main : (∀ (yM : MtV) (C : Nat) W, F yM C W → wpAnyH P md o Q S n L (f yM C) W) → G) (tail : ∀ (yM : MtV) (C : Nat) W, F yM C W → wpAnyH P md o Q S n L (f yM C) W) : G := main tail
theorem VH (p : PgV) (t : TsV) (fuel : Int) (hfuelI : -9223372036854775808 ≤ fuel ∧ fuel ≤ 9223372036854775807) (n : Int) (hnI : -9223372036854775808 ≤ n ∧ n ≤ 9223372036854775807) (w : World) (hok : p.ok w) (ht : TsRaw w t) : Calls Tryz.prog 4 #[p.val, t.val, .int .i64 fuel, .int .i64 n] w fun e w' => e = .returned (.bool true) ∧ Below w.heap.size w w' := by
 obtain ⟨tA, s, ts⟩ := t;obtain ⟨b4, b5, b6, b7, b8⟩ := ht;rw [show (TsV.mk tA s ts).val = .slice tA ts.length s from rfl];have cy : Hid (ts.length ≤ s ∧ s ≤ maxLen ∧ (tA = none → s = 0)) := ⟨b4, b5, b6⟩;rw [show p.val = .agg p.cells from rfl];go_enter Tryz.func4, Tryz.ntmps4
 obtain ⟨S0, cr, bv, aj, aa, al, ak⟩ := Ale (w := w) (fun W => Below w.heap.size w W) (fun W => p.ok W) (fun W => Rd W tA (Ji ts)) (fun W => (∀ y ∈ ts, y.ok W)) (Below.refl _ _) (hok) (b7) (b8);clear b4 b5 b6 b7 b8 hok;go_wp2_with (refine Qm _ _ rfl ?_)
 refine Stop.to ?_;refine Qe rfl 25 _ rfl p.cells rfl ?_;intro av cf hG rG bG;have b := cr.go bv.out (bG.mono hG);obtain ⟨S1, a7, k, D1, az⟩ := Ev (w := cf) S0 (fun W => Row W av 25 p.cells) b (rG);clear b bv hG rG bG;go_wp2_with fail
 refine (Ad7 cf).mono ?_;rintro e ct ⟨rfl, bb⟩;have b := a7.go k.out (bb);replace k := Lv b;clear b bb;go_wp2_with (refine wpList_load_row rfl 25 _ rfl av rfl 25 p.cells (0, 0) _ (az.out _ k.out) Tryz.underlying25 rfl (by kernel_rfl) ?_)
 refine (Agd p tA s ts fuel ct (al.out _ (D1.out _ k.out))).mono ?_;rintro e cg ⟨he, bb⟩;have b := a7.go k.out (bb);replace k := Lv b;clear b bb;rcases he with rfl | ⟨rfl, fp⟩
 · skip;go_wp2_with fail
   go_ret
   exact ⟨rfl, (aj.out _ (D1.out _ k.out))⟩
 have ag := Lv fp;clear fp;have cu : (ts.length : Int) ≤ 3 := by have := ag.out.tl; omega
 have cx : Hid (∀ x ∈ ts, x.l.length ≤ 40) := (Ajc ag.out.v).2.2.2.1;obtain ⟨z1, cb⟩ : ∃ z, z = Ze p (List.map IntsV.l ts) fuel := ⟨_, rfl⟩;have Hz := Lv cb.symm;clear cb;by_cases h0 : z1 = 0;rotate_left
 · have c0 : (z1 != 0) = true := by simpa using h0
   go_wp2_with (refine wpList_load_row rfl 25 _ rfl av rfl 25 p.cells (0, 0) _ (az.out _ k.out) Tryz.underlying25 rfl (by kernel_rfl) ?_)
   refine (Ab4 p tA s ts fuel cg (aa.out _ (D1.out _ k.out)) (by have := ag.out.body; omega) (al.out _ (D1.out _ k.out)) (ak.out _ (D1.out _ k.out)) (by have := ag.out.tl; omega)).mono ?_;rintro e ch ⟨b3, -, bb⟩;obtain rfl := b3 (by rw [Hz.out]; exact h0);rw [Hz.out];have b := a7.go k.out (bb);replace k := Lv b;clear b bb b3 h0;go_wp2_with (refine QE _ rfl ?_)
   refine Stop.to ?_;refine Qi rfl 38 rfl _ _ (KR _) rfl ?_;intro bu c9 hG rG bG;go_wp2_with (refine Qp _ _ _ rfl ?_)
   refine Stop.to ?_;refine Qk rfl 38 _ _ rfl bu cp0.cells rfl rfl 38 _ rG (by kernel_rfl) rfl (by simp [CpV.cells, cp0, Value.oneCell']) ?_;intro bt rH oH;have bH : Below (ch).heap.size ch bt := (bG.mono hG).trans (oH.below hG);have b := a7.go k.out (bH);obtain ⟨S2, bs, ap, D2, af⟩ := Ev (w := bt) S1 (fun W => Row W bu 38 cp0.cells) b (rH);clear b k hG rG bG rH oH bH;go_wp2_with (refine wpList_load_row rfl 25 _ rfl av rfl 25 p.cells (0, 0) _ (az.out _ (D2.out _ ap.out)) Tryz.underlying25 rfl (by kernel_rfl) ?_)
   refine (Kz p (by have := ag.out.body; omega) bt (aa.out _ (D1.out _ (D2.out _ ap.out)))).mono ?_;rintro e da ⟨xA, bl, xs, rfl, -, -, -, -, -, -, -, bb, -⟩;have b := bs.go ap.out (bb);replace ap := Lv b;clear b bb;have c5 := (af.out _ ap.out).cellv (i := 5) (v := .slice none 0 0) rfl;go_wp2_with fail
   go_ret
   exact ⟨rfl, (aj.out _ (D1.out _ (D2.out _ ap.out)))⟩
 obtain ⟨⟨tr, bg⟩, -⟩ := AaR (Hz.out.trans h0);replace Hz := Lv (Hz.out.trans h0);subst h0;have bo := Lv bg;go_wp2_with (refine wpList_load_row rfl 25 _ rfl av rfl 25 p.cells (0, 0) _ (az.out _ k.out) Tryz.underlying25 rfl (by kernel_rfl) ?_)
 refine (Ab4 p tA s ts fuel cg (aa.out _ (D1.out _ k.out)) (by have := ag.out.body; omega) (al.out _ (D1.out _ k.out)) (ak.out _ (D1.out _ k.out)) (by have := ag.out.tl; omega)).mono ?_;rintro e a8 ⟨-, bi, bb⟩;obtain ⟨c, rfl, cc, hd⟩ := bi Hz.out;have Hd : Hid (c.data = ⟨p.params, p.V, p.body, List.map IntsV.l ts, fuel, (Q8 p.body tr).map (fun d => QW p d (List.map IntsV.l ts) fuel), Qx ((Q8 p.body tr).map fun d => QW p d (List.map IntsV.l ts) fuel)⟩) := hd tr bg;have HF : Hid (CampF p tr c) := Aei (aa.out _ (D1.out _ k.out)) Hz.out bg ag.out.body (fun l hl a ha => by obtain ⟨x, hx, rfl⟩ := LR.1 hl; exact ((ak.out _ (D1.out _ k.out)) x hx).all a ha) Hd.out;clear hd bg;have b := a7.go k.out (bb);obtain ⟨S2, bs, ap, D2, ao⟩ := Ev (w := a8) S1 (fun W => CpOk W c) b (cc);clear b k bb bi cc;go_wp2_with (refine QE _ rfl ?_)
 refine Stop.to ?_;refine Qi rfl 38 rfl _ _ (KR _) rfl ?_;intro a3 cw hG rG bG;go_wp2_with (refine Qp _ _ _ rfl ?_)
 refine Stop.to ?_;refine Qk rfl 38 _ _ rfl a3 c.cells rfl rfl 38 _ rG (by kernel_rfl) rfl (by simp [CpV.cells, Value.oneCell']) ?_;intro a9 rH oH;have bH : Below (a8).heap.size a8 a9 := (bG.mono hG).trans (oH.below hG);have b := bs.go ap.out (bH);obtain ⟨S3, cs, ba, D3, af⟩ := Ev (w := a9) S2 (fun W => Row W a3 38 c.cells) b (rH);clear b ap hG rG bG rH oH bH;go_wp2_with (refine wpList_load_row rfl 25 _ rfl av rfl 25 p.cells (0, 0) _ (az.out _ (D2.out _ (D3.out _ ba.out))) Tryz.underlying25 rfl (by kernel_rfl) ?_)
 refine (Kz p (by have := ag.out.body; omega) a9 (aa.out _ (D1.out _ (D2.out _ (D3.out _ ba.out))))).mono ?_;rintro e bj ⟨xA, bl, xs, rfl, a1, -, -, a4, a5, -, cq, bb, -⟩;rw [show QI p = 0 from checkP_ok.2 ⟨tr, bo.out⟩];have Hx : Hid (xs.map DlV.d = Q8 p.body tr) := a5 tr bo.out;have bq : (Q8 p.body tr).length = xs.length := by rw [← Hx.out, Lz]
 have be : Hid (c.mts.length = xs.length) := HF.out.len.trans bq;have cj : Hid (c.sc.tot = (xs.length : Int)) := HF.out.tot.trans (by rw [bq]);have cv : (xs.length : Int) ≤ 20000 := by omega
 clear a5 bq cq;have b := cs.go ba.out (bb);obtain ⟨S4, cd, q, D4, au, ar⟩ := Aja (w := bj) S3 (fun W => Rd W xA (KF xs)) (fun W => (∀ x ∈ xs, DlT W x)) b (a1) (a4);clear b ba bb a1 a4;have c5 := ((af.out _ (D4.out _ q.out)).cellv (i := 5) (v := .slice c.mA xs.length c.mcap) (by show some (Value.slice c.mA c.mts.length c.mcap) = _; rw [be.out]));have c6 := ((af.out _ (D4.out _ q.out)).cellv (i := 6) (v := .int .i64 c.sc.alive) rfl);have c7 := ((af.out _ (D4.out _ q.out)).cellv (i := 7) (v := .int .i64 c.sc.killed) rfl);have c8 := ((af.out _ (D4.out _ q.out)).cellv (i := 8) (v := .int .i64 c.sc.timeout) rfl);go_wp2_with (refine Ko (by kernel_rfl) 38 _ rfl a3 rfl 38 c.cells (0, 0) _ (af.out _ (D4.out _ q.out)) Tryz.underlying38 rfl (by kernel_rfl) ?_)
 clear c5 c6 c7 c8;refine (AcR c bj (ao.out _ (D3.out _ (D4.out _ q.out)))).mono ?_;rintro e ce ⟨rfl, bb⟩;rw [okC.2 HF.out.ok];have b := cd.go q.out (bb);replace q := Lv b;clear b bb;have c5 := ((af.out _ (D4.out _ q.out)).cellv (i := 5) (v := .slice c.mA xs.length c.mcap) (by show some (Value.slice c.mA c.mts.length c.mcap) = _; rw [be.out]));have c6 := ((af.out _ (D4.out _ q.out)).cellv (i := 6) (v := .int .i64 c.sc.alive) rfl);have c7 := ((af.out _ (D4.out _ q.out)).cellv (i := 7) (v := .int .i64 c.sc.killed) rfl);have c8 := ((af.out _ (D4.out _ q.out)).cellv (i := 8) (v := .int .i64 c.sc.timeout) rfl);go_wp2_with fail
 refine (AdQ c.sc ce HF.out.small).mono ?_;rintro e bk ⟨rfl, bb⟩;rw [cj.out];have b := cd.go q.out (bb);replace q := Lv b;clear b bb;clear c5 c6 c7 c8;by_cases co : n < 0
 · skip;go_wp2_with fail
   go_ret
   exact ⟨rfl, (aj.out _ (D1.out _ (D2.out _ (D3.out _ (D4.out _ q.out)))))⟩
 have c2 : 0 ≤ n := by omega
 by_cases cp : n ≥ (xs.length : Int)
 · skip;go_wp2_with fail
   go_ret
   exact ⟨rfl, (aj.out _ (D1.out _ (D2.out _ (D3.out _ (D4.out _ q.out)))))⟩
 have c3 : n < (xs.length : Int) := by omega
 obtain ⟨i, rfl⟩ : ∃ m : Nat, n = (m : Int) := ⟨n.toNat, by omega⟩;have b2 : i < xs.length := by omega
 obtain ⟨x, hx⟩ : ∃ x, xs[i]? = some x := ⟨_, La b2⟩;obtain ⟨y, hy, ca, b9⟩ := Ai0 Hd.out Hx.out hx;have bx := Lv hx;have bf : Hid (x ∈ xs) := Lj hx;have bz := Lv hy;have cm := Lv ca;have cl := Lv b9;have bd : Hid (ZW p x.d (List.map IntsV.l ts) fuel = 0) := Ajn Hz.out bo.out (by rw [← Hx.out]; exact LY bf.out);obtain ⟨ad, cn, -⟩ := Ep (au.out _ q.out) hx;obtain ⟨am, b1, -⟩ := YW (c := MtV.cells) (sz := 8) (fun _ => rfl) (by decide) (ao.out _ (D3.out _ (D4.out _ q.out))).mrd hy;have bn := Lv b1;subst cn;clear co cp b2 hx hy ca b9 b1;go_wp2_with fail
 obtain ⟨ab, bp⟩ : ∃ V, V = (bk).drew := ⟨_, rfl⟩;obtain ⟨aw, t0, ay, tB, h⟩ := exT (w := ab) (bp ▸ St.drew q.out : S4 ab);refine wp_region_held (S := aw) (by kernel_rfl) ?_;simp only [Lm, Le, Lu, Nat.reduceAdd, Lk, Ll, Ly, Lp, Ln];show wpAnyH _ _ _ _ _ _ _ _ (bk).drew;rw [← bp];clear bp q;(refine tkH 0 _ rfl ((Z1 rfl 25 _ rfl av rfl 25 p.cells _ (fun W o => (az.out _ (D2.out _ (D3.out _ (D4.out _ (t0.out _ o)))))) Tryz.underlying25 rfl (by kernel_rfl))) ?_; simp only [Act.put, Qa, Qb, Qc]);(refine tkH 1 (.slice (some ad) xs.length bl) rfl (Qd rfl (fun W o => by (go_simp))) ?_; simp only [Act.put, Qa, Qb, Qc]);(refine tkH 2 (.int .i64 (i : Int)) rfl (Qd rfl (fun W o => by (go_simp))) ?_; simp only [Act.put, Qa, Qb, Qc]);(refine tkH 3 (.pointer (some (ad.add (i * 3)))) rfl (Qd rfl (fun W o => by (go_simp))) ?_; simp only [Act.put, Qa, Qb, Qc]);(refine tkH 4 _ rfl (JA rfl 50 _ rfl (ad.add (i * 3)) rfl [.slice x.A x.d.path.length x.cap, .int .i64 x.d.op, .int .i64 x.d.n] _ (fun W o => by obtain ⟨a2, e2, h2⟩ := Ep (au.out _ (t0.out _ o)) bx.out; injection e2 with e2; rw [e2]; exact h2) Tryz.underlying50 rfl (by kernel_rfl)) ?_; simp only [Act.put, Qa, Qb, Qc]);(refine tkH 5 (.slice tA ts.length s) rfl (Qd rfl (fun W o => by (go_simp))) ?_; simp only [Act.put, Qa, Qb, Qc]);(refine tkH 6 (.int .i64 fuel) rfl (Qd rfl (fun W o => by (go_simp))) ?_; simp only [Act.put, Qa, Qb, Qc]);apply Afi (F := fun yM ai W => aw W ∧ Row W ai 54 mt0.cells.toArray ∧ ab.heap.size ≤ ai ∧ yM.m = QW p x.d (List.map IntsV.l ts) fuel ∧ MtT W yM)
 case main =>
  intro tJ;refine wpAnyH_all (rs := [7, 11]) (by kernel_rfl) (by simp) (fun i hi => ?_);simp only [L2, L9, or_false] at hi;rcases hi with rfl | rfl
  · skip;refine Qf rfl rfl (fun K2 ac => ?_);refine Qo 18 #[.agg p.cells, .agg #[.slice x.A x.d.path.length x.cap, .int .i64 x.d.op, .int .i64 x.d.n], .slice tA ts.length s, .int .i64 fuel] (w1 := ab) (by go_simp) ((Abc p x tA s ts fuel ab (aa.out _ (D1.out _ (D2.out _ (D3.out _ (D4.out _ (t0.out _ h)))))) ((ar.out _ (t0.out _ h)) x bf.out).ok (by have := ag.out.body; omega) (al.out _ (D1.out _ (D2.out _ (D3.out _ (D4.out _ (t0.out _ h)))))) (ak.out _ (D1.out _ (D2.out _ (D3.out _ (D4.out _ (t0.out _ h)))))) (by have := ag.out.tl; omega)).mono ?_);rintro e an ⟨yM, rfl, hy, -, bb⟩;refine ⟨_, rfl, ?_⟩;refine ac _ _ ?_;clear ac K2;simp only [Act.put, Qa, Qb, Qc];obtain ⟨ah, ax⟩ := hy bd.out;rw [bd.out];have g : aw an := tB.out _ _ h (bb.mono (ay.out _ h));clear bb  hy;refine ⟨g, ?_⟩;(refine tkH 8 (.tuple #[.agg yM.cells.toArray, .int .i64 0]) rfl (Qd rfl (fun W o => by (go_simp))) ?_; simp only [Act.put, Qa, Qb, Qc]);(refine tkH 9 (.agg yM.cells.toArray) rfl (Qd rfl (fun W o => by (go_simp))) ?_; simp only [Act.put, Qa, Qb, Qc]);(refine tkH 10 (.int .i64 0) rfl (Qd rfl (fun W o => by (go_simp))) ?_; simp only [Act.put, Qa, Qb, Qc]);(refine wpAnyH_all (rs := [11]) (by kernel_rfl) (by simp) (fun i hi => ?_); obtain rfl : i = 11 := by simpa using hi);refine Qf rfl rfl (fun K2 ac => ?_);refine Zn 54 rfl _ _ (Xm _) rfl ?_;intro ai aq hC rC bC;refine ac _ _ ?_;clear ac K2;simp only [Act.put, Qa, Qb, Qc];have a0 : ab.heap.size ≤ ai := Li (ay.out _ g) hC;replace ah := ah;replace ax := ax.go (bC.mono hC);have ae : aw aq := tB.out _ _ g ((bC.mono hC).mono (ay.out _ g));clear bC hC g;refine ⟨ae, ?_⟩;exact tJ yM ai _ ⟨ae, rC, a0, ah, ax⟩
  · skip;refine Qf rfl rfl (fun K2 ac => ?_);refine Zn 54 rfl _ _ (Xm _) rfl ?_;intro ai an hC rC bC;refine ac _ _ ?_;clear ac K2;simp only [Act.put, Qa, Qb, Qc];have a0 : ab.heap.size ≤ ai := Li (ay.out _ h) hC;have g : aw an := tB.out _ _ h ((bC.mono hC).mono (ay.out _ h));clear bC hC ;refine ⟨g, ?_⟩;have c1 := rC.lt;(refine wpAnyH_all (rs := [7]) (by kernel_rfl) (by simp) (fun i hi => ?_); obtain rfl : i = 7 := by simpa using hi);refine Qf rfl rfl (fun K2 ac => ?_);refine Qo 18 #[.agg p.cells, .agg #[.slice x.A x.d.path.length x.cap, .int .i64 x.d.op, .int .i64 x.d.n], .slice tA ts.length s, .int .i64 fuel] (w1 := an) (by go_simp) ((Abc p x tA s ts fuel an (aa.out _ (D1.out _ (D2.out _ (D3.out _ (D4.out _ (t0.out _ g)))))) ((ar.out _ (t0.out _ g)) x bf.out).ok (by have := ag.out.body; omega) (al.out _ (D1.out _ (D2.out _ (D3.out _ (D4.out _ (t0.out _ g)))))) (ak.out _ (D1.out _ (D2.out _ (D3.out _ (D4.out _ (t0.out _ g)))))) (by have := ag.out.tl; omega)).mono ?_);rintro e aq ⟨yM, rfl, hy, -, bb⟩;refine ⟨_, rfl, ?_⟩;refine ac _ _ ?_;clear ac K2;simp only [Act.put, Qa, Qb, Qc];obtain ⟨ah, ax⟩ := hy bd.out;rw [bd.out];replace rC := rC.below bb rC.lt;have ae : aw aq := tB.out _ _ g (bb.mono (ay.out _ g));clear bb g hy;refine ⟨ae, ?_⟩;(refine tkH 8 (.tuple #[.agg yM.cells.toArray, .int .i64 0]) rfl (Qd rfl (fun W o => by (go_simp))) ?_; simp only [Act.put, Qa, Qb, Qc]);(refine tkH 9 (.agg yM.cells.toArray) rfl (Qd rfl (fun W o => by (go_simp))) ?_; simp only [Act.put, Qa, Qb, Qc]);(refine tkH 10 (.int .i64 0) rfl (Qd rfl (fun W o => by (go_simp))) ?_; simp only [Act.put, Qa, Qb, Qc]);exact tJ yM ai _ ⟨ae, rC, a0, ah, ax⟩
 case tail =>
  rintro yM ai aq ⟨h2, rC, a0, ah, ax⟩;(refine wpAnyH_all (rs := [12]) (by kernel_rfl) (by simp) (fun i hi => ?_); obtain rfl : i = 12 := by simpa using hi);refine Qf rfl rfl (fun K2 ac => ?_);refine ZC 54 _ _ rfl ai yM.cells.toArray rfl rfl 54 _ rC (by kernel_rfl) rfl (by simp [MtV.cells, Value.oneCell']) ?_;intro a6 r9 o9;refine ac _ _ ?_;clear ac K2;simp only [Act.put, Qa, Qb, Qc];have h9 : aw a6 := tB.out _ _ h2 (o9.below a0);have b := t0.out _ h9;have br := ax.only rC (by decide) o9;refine ⟨h9, ?_⟩;(refine tkH 13 (.int .i64 0) rfl (Qd rfl (fun W o => by (go_simp))) ?_; simp only [Act.put, Qa, Qb, Qc]);refine wpAnyH_done (by kernel_rfl) ?_ _;obtain ⟨S5, c4, bc, D5, ci, bm⟩ := Aja (w := a6) S4 (fun W => Row W ai 54 yM.cells.toArray) (fun W => MtT W yM) b (r9) (br);clear h2 a0 h9 t0 ay tB;go_wp2_with fail
  have bh : Hid (∀ W, S5 W → MtOk W y) := fun W o => (ao.out _ (D3.out _ (D4.out _ (D5.out _ o)))).mok y (Lj bz.out);have ck : Hid (y.m = yM.m) := cm.out.trans ah.symm;clear ah
  have bw : Hid (∀ W, S5 W → ∀ j u, y.cells[j]? = some u → W.cell? ((am.add (i * 8)).add j) = some u) := fun W o => by
   obtain ⟨a2, e2, h2⟩ := YW (c := MtV.cells) (sz := 8) (fun _ => rfl) (by decide) (ao.out _ (D3.out _ (D4.out _ (D5.out _ o)))).mrd bz.out;rw [bn.out] at e2; injection e2 with e2; rw [e2]; exact h2
  refine ZJ S5 (by kernel_rfl) (by kernel_rfl) (St.drew bc.out) ?_
  iterate 3 (refine Qg rfl ?_ (fun W o => ?_) ?_; rotate_left; (focus (go_simp; exact rfl)); simp only [Act.put, Qa, Qb, Qc])
  (refine Qg rfl ?_ (fun W o => ?_) ?_; rotate_left; (focus (have c := ((af.out _ (D4.out _ (D5.out _ o))).cellv (i := 5) (v := .slice (some am) xs.length c.mcap) (by show some (Value.slice c.mA c.mts.length c.mcap) = _; rw [be.out, bn.out])); go_simp; exact rfl)); simp only [Act.put, Qa, Qb, Qc])
  iterate 3 (refine Qg rfl ?_ (fun W o => ?_) ?_; rotate_left; (focus (go_simp; exact rfl)); simp only [Act.put, Qa, Qb, Qc])
  (refine Zl rfl 50 _ rfl ((am.add (i * 8))) rfl [.slice y.A y.m.d.path.length y.cap, .int .i64 y.m.d.op, .int .i64 y.m.d.n] _ (fun W o => Ako (bw.out W o)) Tryz.underlying50 rfl (by kernel_rfl) ?_; simp only [Act.put, Qa, Qb, Qc])
  iterate 3 (refine Qg rfl ?_ (fun W o => ?_) ?_; rotate_left; (focus (go_simp; exact rfl)); simp only [Act.put, Qa, Qb, Qc])
  (refine Zl rfl 50 _ rfl ((ad.add (i * 3))) rfl [.slice x.A x.d.path.length x.cap, .int .i64 x.d.op, .int .i64 x.d.n] _ (fun W o => by obtain ⟨a2, e2, h2⟩ := Ep (au.out _ (D5.out _ o)) bx.out; injection e2 with e2; rw [e2]; exact h2) Tryz.underlying50 rfl (by kernel_rfl) ?_; simp only [Act.put, Qa, Qb, Qc]);(refine QG rfl 19 _ (fun W => by (go_simp; try rfl)) (.bool true) (fun W o => AjO (bh.out W o) ((ar.out _ (D5.out _ o)) x bf.out).ok cl.out) ?_; simp only [Act.put, Qa, Qb, Qc])
  iterate 7 (refine Qg rfl ?_ (fun W o => ?_) ?_; rotate_left; (focus (go_simp; exact rfl)); simp only [Act.put, Qa, Qb, Qc])
  (refine Qg rfl ?_ (fun W o => ?_) ?_; rotate_left; (focus (have c := ((af.out _ (D4.out _ (D5.out _ o))).cellv (i := 5) (v := .slice (some am) xs.length c.mcap) (by show some (Value.slice c.mA c.mts.length c.mcap) = _; rw [be.out, bn.out])); go_simp; exact rfl)); simp only [Act.put, Qa, Qb, Qc])
  iterate 2 (refine Qg rfl ?_ (fun W o => ?_) ?_; rotate_left; (focus (go_simp; exact rfl)); simp only [Act.put, Qa, Qb, Qc])
  (refine Zl rfl 54 _ rfl ((am.add (i * 8))) rfl y.cells _ (fun W o => bw.out W o) Tryz.underlying54 rfl (by kernel_rfl) ?_; simp only [Act.put, Qa, Qb, Qc]);(refine Zd rfl 54 _ rfl (ai) rfl 54 _ _ (fun W o => (ci.out _ o)) Tryz.underlying54 rfl (by kernel_rfl) ?_; simp only [Act.put, Qa, Qb, Qc]);(refine QG rfl 20 _ (fun W => by (go_simp; try rfl)) (.bool true) (fun W o => AjP (bh.out W o) ((bm.out _ o)).1 ck.out) ?_; simp only [Act.put, Qa, Qb, Qc])
  iterate 2 (refine Qg rfl ?_ (fun W o => ?_) ?_; rotate_left; (focus (go_simp; exact rfl)); simp only [Act.put, Qa, Qb, Qc])
  refine QS fun W9 b0 => ?_
  clear bc;have bc : Hid (S5 W9) := b0;clear b0;go_wp2_with fail
  go_ret
  exact ⟨rfl, (aj.out _ (D1.out _ (D2.out _ (D3.out _ (D4.out _ (D5.out _ bc.out))))))⟩
end Go.Proofs.YtkoikjnlpifbjaaGreat
