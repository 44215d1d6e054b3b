/- Lemmas for RunnerJustP. -/
import Derived.Test.YtkoikjnlpifbjaaGreatZb1
import Derived.Test.YtkoikjnlpifbjaaGreatZb22
import Derived.Lib.AppendZerosOnto
set_option linter.unusedVariables false
set_option linter.unusedSimpArgs false
set_option maxRecDepth 100000
set_option maxHeartbeats 16000000
namespace Go.Proofs.YtkoikjnlpifbjaaGreat
open Go.RowKit Go.Deep
theorem AjZ (z : Array Value) (k : Nat) : (Builtin.zeroCells z k).size = k * z.size := by simp [Builtin.zeroCells]
theorem Aie {R : Array Value} {l : List Nd} {n i G : Nat} (y : Nd) (hl : l.length = n) (hR : R.size = G * 2) (hn : n + 1 ≤ G) (hi : i ≤ n) (ht : R.toList.take (i * 2) = (l.take i).flatMap Nd.cells) :
 (ZQ (ZQ R (i * 2) y.cells) ((i + 1) * 2) ((l.drop i).flatMap Nd.cells)).toList.take ((n + 1) * 2) = (l.take i ++ y :: l.drop i).flatMap Nd.cells ∧ (ZQ (ZQ R (i * 2) y.cells) ((i + 1) * 2) ((l.drop i).flatMap Nd.cells)).size = G * 2 := by
 have e : ((l.drop i).flatMap Nd.cells).length = (n - i) * 2 := by rw [Z5, LU, hl]
 have c : y.cells.length = 2 := rfl;have b : R.toList.length = G * 2 := by rw [Nf, hR]
 have d : (R.toList.take (i * 2)).length = i * 2 := by rw [L7]; omega
 constructor
 · rw [LD, LI, ← ht];unfold ZQ;simp only [List.toList_toArray];have h : (R.toList.take (i * 2) ++ y.cells ++ R.toList.drop (i * 2 + y.cells.length)).take ((i + 1) * 2) = R.toList.take (i * 2) ++ y.cells := N4 (by rw [Lf, d, c]; omega);rw [h]
   have g : (R.toList.take (i * 2) ++ y.cells ++ (l.drop i).flatMap Nd.cells).length = (n + 1) * 2 := by
    simp only [Lf, d, e, c]; omega
   rw [N4 g, L4]
 · unfold ZQ;simp only [Lm, Lf, L7, LU, e, c, b];omega
theorem Ac8 (g J i : Nat) (l : List Nd) (y : Nd) (cur : Array Value) (w : World) (hg : Row w g 65 cur) (hs : cur.size = l.length * 2) (ht : cur.toList = l.flatMap Nd.cells) (hl : l.length ≤ 1000) (hi : i < l.length) (hJ : Row w J 65 #[.int .i64 y.tag, .int .i64 y.n]) :
 Calls Tryz.prog 131 #[.slice (some ⟨g, 0, none⟩) l.length l.length, .int .i64 (i : Int), .slice (some ⟨J, 0, none⟩) 1 1] w fun e w' => ∃ N G cur', e = .returned (.slice (some ⟨N, 0, none⟩) (l.length + 1) G) ∧ w.heap.size ≤ N ∧ l.length + 1 ≤ G ∧ G ≤ maxLen ∧ Row w' N 65 cur' ∧ cur'.size = G * 2 ∧ cur'.toList.take ((l.length + 1) * 2) = (l.take i ++ y :: l.drop i).flatMap Nd.cells ∧ Below w.heap.size w w' := by
 obtain ⟨n, o⟩ : ∃ n, n = l.length := ⟨_, rfl⟩;rw [← o] at hs hl hi ⊢;obtain ⟨i0, ak, an, ao, ab⟩ := info_parts (P := Tryz.prog) (e := 65) (z := .agg #[.int .i64 0, .int .i64 0]) (size := 2) (bytes := 16) (by kernel_rfl);have b : ((l.take i).flatMap Nd.cells).length = i * 2 := by rw [Z5, L7]; congr 1; omega
 have m : ∀ (j : Nat) (v : Value), ((l.take i).flatMap Nd.cells)[j]? = some v → cur[j]? = some v := by
  intro j v s;have au := (Ld.1 s).1
  have e : (l.flatMap Nd.cells)[j]? = some v := by
   rw [← LK i l, LD, LC (by omega)];exact s
  rw [← ht] at e;simpa using e
 have aj : ((l.drop i).flatMap Nd.cells).length = (n - i) * 2 := by rw [Z5, LU, o]
 have u : ∀ (j : Nat) (v : Value), ((l.drop i).flatMap Nd.cells)[j]? = some v → cur[i * 2 + j]? = some v := by
  intro j v s
  have e : (l.flatMap Nd.cells)[i * 2 + j]? = some v := by
   rw [← LK i l, LD, L8 (by omega), b, Ny];exact s
  rw [← ht] at e;simpa using e
 have gD : Row w.drew g 65 cur := (St.drew (S := fun W => Row W g 65 cur) hg)
 have t : (Builtin.firstCells i0.size i (.slice (some ⟨g, 0, none⟩) i n)).run Tryz.prog w.drew = .ok ((l.take i).flatMap Nd.cells).toArray w.drew := by
  rw [ao];exact run_firstCells_some w.drew 2 i ⟨g, 0, none⟩ i n _ b (Row.from_ (cur := cur) gD 0 (fun j v s => by rw [LN]; exact m j v s))
 obtain ⟨G, hG⟩ : ∃ G, G = grownCap w (n + 1) n 65 := ⟨_, rfl⟩;have af : n + 1 ≤ G := by rw [hG]; exact grownCap_ge w _ _ _
 have ae : G ≤ maxLen := by rw [hG]; exact grownCap_le_maxLen w (n + 1) n _ (by unfold maxLen; omega)
 obtain ⟨R, hR⟩ : ∃ R : Array Value, R = ((l.take i).flatMap Nd.cells).toArray ++ Builtin.zeroCells (Value.agg #[.int .i64 0, .int .i64 0]).cells (n + 1 - i) ++ Builtin.zeroCells (Value.agg #[.int .i64 0, .int .i64 0]).cells (G - (n + 1)) := ⟨_, rfl⟩
 have ag : R.size = G * 2 := by
  rw [hR];simp only [Array.size_append, Lm, b, AjZ, show (Value.agg #[.int .i64 0, .int .i64 0]).cells.size = 2 from rfl];omega
 have ah : R.toList.take (i * 2) = (l.take i).flatMap Nd.cells := by
  rw [hR];simp only [Array.toList_append, L4];exact N4 b
 have p : ∀ ty (k : Int), k = ((n + 1 - i : Nat) : Int) → (Builtin.append_ #[23, 3] ty #[.slice (some ⟨g, 0, none⟩) i n, .int .i64 k]).run Tryz.prog w =
  .ok (.slice (some ⟨w.heap.size, 0, none⟩) (n + 1) G) (w.drew.alloc (.cells R 65)) := fun ty k hk => by
  have h := Lib.run_append_grow_zeros w 23 3 ty 65 i0 _ .i64 .i64 Tryz.underlying23 Tryz.underlying3 ak an (some ⟨g, 0, none⟩) i n _ t (n + 1 - i) (by omega) (by omega) (by omega) (by omega) (by rw [ab]; omega) (by rw [ab, show i + (n + 1 - i) = n + 1 by omega]; exact growslice_fits (by omega) (by omega));rw [show i + (n + 1 - i) = n + 1 by omega, ← hG, ← hR] at h;rw [hk];exact h
 have r0 : Row (w.drew.alloc (.cells R 65)) w.heap.size 65 R := Row.new w.drew 65 R;have bW : Below w.heap.size w (w.drew.alloc (.cells R 65)) := St.alloc (S := fun W => Below w.heap.size w W) (St.drew (S := fun W => Below w.heap.size w W) (Below.refl _ _)) _;have gW : Row (w.drew.alloc (.cells R 65)) g 65 cur := hg.below bW hg.lt;have jW : Row (w.drew.alloc (.cells R 65)) J 65 #[.int .i64 y.tag, .int .i64 y.n] := hJ.below bW hJ.lt;obtain ⟨N, hN⟩ : ∃ N, N = w.heap.size := ⟨_, rfl⟩;have ap : g ≠ N := by have := hg.lt; omega
 have ar : J ≠ N := by have := hJ.lt; omega
 have d : w.heap.size ≤ N := by omega
 rw [← hN] at r0 p;generalize w.drew.alloc (.cells R 65) = W1 at p r0 bW gW jW;have ad := Lv p;have ac := Lv (And.intro ae o);have Hs := Lv u;have Hd := Lv aj;have HR := Lv (And.intro ag ah);clear hG hR ag ah t gD m b hs ht ak an ao ab hg hJ hN p u aj o ae;have z1 : ¬ ((i : Int) = (n : Int)) := by omega
 have z2 : (n : Int) < (n : Int) + 1 := by omega
 have z3 : (i : Int) ≤ (n : Int) := by omega
 have z4 : IntKind.i64.wrap ((i : Int) + 1) = (i : Int) + 1 := by rw [IntKind.wrap_i64]; omega
 have z5 : IntKind.i64.wrap ((n : Int) + 1) = (n : Int) + 1 := by rw [IntKind.wrap_i64]; omega
 have z9 : IntKind.i64.wrap ((n : Int) + 1 - (i : Int)) = (n : Int) + 1 - (i : Int) := by rw [IntKind.wrap_i64]; omega
 have z6 : (0 : Int) ≤ (i : Int) + 1 := by omega
 have z7 : ((i : Int) + 1).toNat = i + 1 := by omega
 have z8 : ((n : Int) + 1).toNat = n + 1 := by omega
 have y1 : ¬ (G = i) := by omega
 have y2 : ¬ (G = i + 1) := by omega
 have y3 : ¬ (n = i) := by omega
 have y4 : (i : Int) + 1 ≤ (n : Int) + 1 := by omega
 have y5 : (i : Int) ≤ (n : Int) + 1 := by omega
 go_enter Tryz.func131, Tryz.ntmps131
 go_wp2_with (first
  | (at_builtin; refine Lib.wpList_append_run _ rfl _ _ _ _ rfl _ _ rfl rfl _ _ (ad.out _ _ (by omega)) ?_)
  | (refine Afo _ _ _ _ rfl ?_))
 refine Stop.to ?_;have ai := fun ty dc => Kx (P := Tryz.prog) W1 23 23 ty 65 2 N (i * 2) (n + 1 - i) dc ⟨J, 0, none⟩ 1 1 R 65 y.cells Tryz.underlying23 (by kernel_rfl) r0 (by show 2 = _; simp only [Nat.min_def]; split <;> omega) (Row.from_ jW 0 (fun j v s => by rw [LN]; simpa [Nd.cells] using s)) (by show i * 2 + 2 ≤ _; have := HR.out.1; omega) (by simp [Nd.cells, Value.oneCell'])
 refine Zc rfl _ (JF rfl (ai _ _)) ?_;have r1 : Row (W1.setRow N (ZQ R (i * 2) y.cells)) N 65 (ZQ R (i * 2) y.cells) := setRow_heap W1 N R _ _ _ r0;have o1 := Zv W1 N (ZQ R (i * 2) y.cells);have g1 := gW.only o1 ap;have b1 := Ql bW o1 d;have x := Lv (Aie (R := R) (l := l) (n := n) (i := i) (G := G) y ac.out.2.symm HR.out.1 af (by omega) HR.out.2)
 have am : (ZQ R (i * 2) y.cells).size = G * 2 := by
  unfold ZQ; simp only [Lm, Lf, L7, LU, Nf, show y.cells.length = 2 from rfl]; have := HR.out.1; omega
 have aa := Lv am;generalize W1.setRow N (ZQ R (i * 2) y.cells) = W2 at r1 o1 g1 b1 ⊢;generalize ZQ R (i * 2) y.cells = c1 at r1 x aa;obtain ⟨S, c⟩ : ∃ S, S = (fun W => (Row W N 65 c1 ∧ Row W g 65 cur) ∧ Below w.heap.size w W) := ⟨_, rfl⟩;have aq : St S := by rw [c]; infer_instance
 have TN : Hid (∀ W, S W → Row W N 65 c1) := by show ∀ W, _; rw [c]; exact fun W h => h.1.1
 have TG : Hid (∀ W, S W → Row W g 65 cur) := by show ∀ W, _; rw [c]; exact fun W h => h.1.2
 have TB : Hid (∀ W, S W → Below w.heap.size w W) := by show ∀ W, _; rw [c]; exact fun W h => h.2
 have hS : S W2 := by rw [c]; exact ⟨⟨r1, g1⟩, b1⟩
 clear c r1 g1 b1 o1 ai am r0 bW gW jW ad HR;go_wp2_with fail
 refine ZA S 8 (by kernel_rfl) (by kernel_rfl) (St.drew hS) ?_;clear hS;simp only [LF, LP, LE, LL]
 iterate 8 (refine Qg rfl ?_ (fun W hW => ?_) ?_; rotate_left; (focus (go_simp; exact rfl)); simp only [Act.put, Qa, Qb, Qc])
 refine QS fun W hW => ?_
 have al := Row.from_ (cur := cur) (TG.out W hW) (i * 2) Hs.out;have q := fun ty dc sc => Kx (P := Tryz.prog) W 23 23 ty 65 2 N ((i + 1) * 2) (n - i) dc ⟨g, i * 2, none⟩ (n - i) sc c1 65 ((l.drop i).flatMap Nd.cells) Tryz.underlying23 (by kernel_rfl) (TN.out W hW) (by rw [Hd.out]; simp only [Nat.min_def]; split <;> omega) al (by rw [Hd.out, aa.out]; omega) (VO _)
 refine Zc rfl _ (JF rfl (q _ _ _)) ?_;have r2 : Row (W.setRow N (ZQ c1 ((i + 1) * 2) ((l.drop i).flatMap Nd.cells))) N 65 (ZQ c1 ((i + 1) * 2) ((l.drop i).flatMap Nd.cells)) := setRow_heap W N c1 _ _ _ (TN.out W hW);have o2 := Zv W N (ZQ c1 ((i + 1) * 2) ((l.drop i).flatMap Nd.cells));have b2 := Ql (TB.out W hW) o2 d;have HF := Lv (And.intro r2 (And.intro x.out b2));clear al q r2 o2 b2 hW TN TG TB aq Hs Hd x aa;go_wp2_with fail
 go_ret
 exact ⟨N, G, _, rfl, d, af, ac.out.1, HF.out.1, HF.out.2.1.2, HF.out.2.1.1, HF.out.2.2⟩
theorem Ahp (p : PgV) (q : Nat) (t : Tr) (w : World) (hat : At p.body q t) (hbl : p.body.length ≤ 1000) (hok : p.ok w) (h : t.root.tag = 21 ∨ t.root.tag = 22 ∨ t.root.tag = 23 ∨ t.root.tag = 24 ∨ t.root.tag = 25) :
 Calls Tryz.prog 91 #[.agg (ZH p q 0)] w fun e w' => NdsR (p.body.take q ++ ([⟨26, 0⟩] ++ p.body.drop (q + t.size))) w w' e := by
 have Hn : Hid (∀ W, Below w.heap.size w W → Calls Tryz.prog 128 #[.agg (ZH p q 0)] W fun e w' => e = .returned (.agg #[.int .i64 t.root.tag, .int .i64 t.root.n]) ∧ Below W.heap.size W w') := fun W b => KT p q 0 t.root W hat.root (hok.go b)
 have Hr : Hid (∀ W, Below w.heap.size w W → ∀ G, Row W G 65 #[.int .i64 26, .int .i64 0] → Calls Tryz.prog 130 #[.slice p.ba p.body.length p.bcap, .int .i64 (q : Int), .slice (some ⟨G, 0, none⟩) 1 1] W fun e w' => NdsR (p.body.take q ++ ([⟨26, 0⟩] ++ p.body.drop (q + t.size))) W w' e) := fun W b G hG =>
  AfP p.ba (some ⟨G, 0, none⟩) p.bcap 1 p.body [⟨26, 0⟩] q t W hat (hok.go b).brd (Jq (cs := [.int .i64 26, .int .i64 0]) hG) (fun e => by cases e) hbl (by simp) hok.blen hok.bmax
 obtain ⟨k, hk⟩ : ∃ k, k = t.root.tag := ⟨_, rfl⟩;obtain ⟨m, hm⟩ : ∃ m, m = t.root.n := ⟨_, rfl⟩;obtain ⟨r, hr⟩ : ∃ r, r = p.body.take q ++ ([⟨26, 0⟩] ++ p.body.drop (q + t.size)) := ⟨_, rfl⟩;rw [← hk] at h;rw [← hk, ← hm] at Hn;rw [← hr] at Hr ⊢;have f0 := YN k m;clear hk hm hr hat hbl hok;go_enter Tryz.func91, Tryz.ntmps91
 go_wp2_with (refine Qm _ _ rfl ?_)
 refine Stop.to ?_;refine Qe rfl 148 _ rfl (ZH p q 0) rfl ?_;intro G Gw Gh Gr Gb;have b1 := (Below.refl w.heap.size w).trans (Gb.mono Gh);have Hc := Lv (Hn.out _ b1);clear Gb Gh Hn;go_wp2_with (refine wpList_load_row rfl 148 _ rfl G rfl 148 (ZH p q 0) (0, 0) _ Gr Tryz.underlying148 rfl (by kernel_rfl) ?_)
 refine Hc.out.mono ?_;rintro e w1 ⟨rfl, b2⟩;have aa := Gr.below b2 Gr.lt;have b4 := b1.trans (b2.mono b1.size);have g2 := aa.cellv (i := 2) (v := .slice p.ba p.body.length p.bcap) rfl;have g3 := aa.cellv (i := 3) (v := .int .i64 q) rfl;have g4 := aa.cellv (i := 4) (v := .int .i64 0) rfl;clear Gr b1 b2 Hc aa;rcases h with rfl | rfl | rfl | rfl | rfl
 all_goals
  go_wp2_with (refine ZE _ _ _ rfl ?_)
  skip
 · refine Stop.to ?_;refine Qz rfl 23 1 _ rfl 65 #[.int .i64 26, .int .i64 0] (fun W => by kernel_rfl) ?_;intro J Jw o s l;have y := (Below.refl w1.heap.size w1).trans (l.mono o);have j := b4.trans (y.mono b4.size);have H := Lv (Hr.out Jw j J s);clear s l o y Hr;go_wp2_with fail
   refine H.out.mono ?_;rintro e w3 ⟨v, rfl, c, u⟩;have x := j.trans (u.mono j.size);have d := QQ c j.size;obtain ⟨z, g⟩ : ∃ z, z = (r).length := ⟨_, rfl⟩;rw [← g] at d c;obtain ⟨A3, c3, rfl⟩ := Zj c;have HF := Lv d;have HN := Lv g;have H4 := Lv x;clear c d g u x j H;go_wp2_with fail
   go_ret
   exact ⟨_, rfl, by rw [← HN.out]; exact HF.out, H4.out⟩
 · refine Stop.to ?_;refine Qz rfl 23 1 _ rfl 65 #[.int .i64 26, .int .i64 0] (fun W => by kernel_rfl) ?_;intro J Jw o s l;have y := (Below.refl w1.heap.size w1).trans (l.mono o);have j := b4.trans (y.mono b4.size);have H := Lv (Hr.out Jw j J s);clear s l o y Hr;go_wp2_with fail
   refine H.out.mono ?_;rintro e w3 ⟨v, rfl, c, u⟩;have x := j.trans (u.mono j.size);have d := QQ c j.size;obtain ⟨z, g⟩ : ∃ z, z = (r).length := ⟨_, rfl⟩;rw [← g] at d c;obtain ⟨A3, c3, rfl⟩ := Zj c;have HF := Lv d;have HN := Lv g;have H4 := Lv x;clear c d g u x j H;go_wp2_with fail
   go_ret
   exact ⟨_, rfl, by rw [← HN.out]; exact HF.out, H4.out⟩
 · refine Stop.to ?_;refine Qz rfl 23 1 _ rfl 65 #[.int .i64 26, .int .i64 0] (fun W => by kernel_rfl) ?_;intro J Jw o s l;have y := (Below.refl w1.heap.size w1).trans (l.mono o);have j := b4.trans (y.mono b4.size);have H := Lv (Hr.out Jw j J s);clear s l o y Hr;go_wp2_with fail
   refine H.out.mono ?_;rintro e w3 ⟨v, rfl, c, u⟩;have x := j.trans (u.mono j.size);have d := QQ c j.size;obtain ⟨z, g⟩ : ∃ z, z = (r).length := ⟨_, rfl⟩;rw [← g] at d c;obtain ⟨A3, c3, rfl⟩ := Zj c;have HF := Lv d;have HN := Lv g;have H4 := Lv x;clear c d g u x j H;go_wp2_with fail
   go_ret
   exact ⟨_, rfl, by rw [← HN.out]; exact HF.out, H4.out⟩
 · refine Stop.to ?_;refine Qz rfl 23 1 _ rfl 65 #[.int .i64 26, .int .i64 0] (fun W => by kernel_rfl) ?_;intro J Jw o s l;have y := (Below.refl w1.heap.size w1).trans (l.mono o);have j := b4.trans (y.mono b4.size);have H := Lv (Hr.out Jw j J s);clear s l o y Hr;go_wp2_with fail
   refine H.out.mono ?_;rintro e w3 ⟨v, rfl, c, u⟩;have x := j.trans (u.mono j.size);have d := QQ c j.size;obtain ⟨z, g⟩ : ∃ z, z = (r).length := ⟨_, rfl⟩;rw [← g] at d c;obtain ⟨A3, c3, rfl⟩ := Zj c;have HF := Lv d;have HN := Lv g;have H4 := Lv x;clear c d g u x j H;go_wp2_with fail
   go_ret
   exact ⟨_, rfl, by rw [← HN.out]; exact HF.out, H4.out⟩
 · refine Stop.to ?_;refine Qz rfl 23 1 _ rfl 65 #[.int .i64 26, .int .i64 0] (fun W => by kernel_rfl) ?_;intro J Jw o s l;have y := (Below.refl w1.heap.size w1).trans (l.mono o);have j := b4.trans (y.mono b4.size);have H := Lv (Hr.out Jw j J s);clear s l o y Hr;go_wp2_with fail
   refine H.out.mono ?_;rintro e w3 ⟨v, rfl, c, u⟩;have x := j.trans (u.mono j.size);have d := QQ c j.size;obtain ⟨z, g⟩ : ∃ z, z = (r).length := ⟨_, rfl⟩;rw [← g] at d c;obtain ⟨A3, c3, rfl⟩ := Zj c;have HF := Lv d;have HN := Lv g;have H4 := Lv x;clear c d g u x j H;go_wp2_with fail
   go_ret
   exact ⟨_, rfl, by rw [← HN.out]; exact HF.out, H4.out⟩
theorem Aha (p : PgV) (q : Nat) (n : Int) (t c : Tr) (w : World) (hat : At p.body q t) (hac : At p.body (q + 1) c) (hbl : p.body.length ≤ 1000) (hok : p.ok w) (h : t.root.tag = 25) :
 Calls Tryz.prog 93 #[.agg (ZH p q n)] w fun e w' => NdsR (p.body.take (q + 1) ++ ([⟨1, n⟩] ++ p.body.drop (q + 1 + c.size))) w w' e := by
 have u : Hid (∀ W, Below w.heap.size w W → Calls Tryz.prog 128 #[.agg (ZH p q n)] W fun e w' => e = .returned (.agg #[.int .i64 25, .int .i64 t.root.n]) ∧ Below W.heap.size W w') := fun W b => by rw [← h]; exact KT p q n t.root W hat.root (hok.go b)
 have x : Hid (∀ W, Below w.heap.size w W → ∀ G, Row W G 65 #[.int .i64 1, .int .i64 n] → Calls Tryz.prog 130 #[.slice p.ba p.body.length p.bcap, .int .i64 ((q : Int) + 1), .slice (some ⟨G, 0, none⟩) 1 1] W fun e w' => NdsR (p.body.take (q + 1) ++ ([⟨1, n⟩] ++ p.body.drop (q + 1 + c.size))) W w' e) := fun W b G hG =>
  AfP p.ba (some ⟨G, 0, none⟩) p.bcap 1 p.body [⟨1, n⟩] (q + 1) c W hac (hok.go b).brd (Jq (cs := [.int .i64 1, .int .i64 n]) hG) (fun e => by cases e) hbl (by simp) hok.blen hok.bmax
 obtain ⟨m, hm⟩ : ∃ m, m = t.root.n := ⟨_, rfl⟩;obtain ⟨r, hr⟩ : ∃ r, r = p.body.take (q + 1) ++ ([⟨1, n⟩] ++ p.body.drop (q + 1 + c.size)) := ⟨_, rfl⟩;have aa : (q : Int) ≤ 1000 := by have := hat.lt; omega
 rw [← hm] at u;rw [← hr] at x ⊢;have f0 := YN 25 m;clear hm hr hat hac hbl hok h;go_enter Tryz.func93, Tryz.ntmps93
 go_wp2_with (refine Qm _ _ rfl ?_)
 refine Stop.to ?_;refine Qe rfl 148 _ rfl (ZH p q n) rfl ?_;intro G Gw Gh o z;have s := (Below.refl w.heap.size w).trans (z.mono Gh);have Hc := Lv (u.out _ s);clear z Gh u;go_wp2_with (refine wpList_load_row rfl 148 _ rfl G rfl 148 (ZH p q n) (0, 0) _ o Tryz.underlying148 rfl (by kernel_rfl) ?_)
 refine Hc.out.mono ?_;rintro e w1 ⟨rfl, y⟩;have j := o.below y o.lt;have b4 := s.trans (y.mono s.size);have g2 := j.cellv (i := 2) (v := .slice p.ba p.body.length p.bcap) rfl;have g3 := j.cellv (i := 3) (v := .int .i64 q) rfl;have g4 := j.cellv (i := 4) (v := .int .i64 n) rfl;clear o s y Hc j;go_wp2_with (refine ZE _ _ _ rfl ?_)
 refine Stop.to ?_;refine Qz rfl 23 1 _ rfl 65 #[.int .i64 1, .int .i64 n] (fun W => by kernel_rfl) ?_;intro J Jw Jh Jr Jb;have bJ := (Below.refl w1.heap.size w1).trans (Jb.mono Jh);have l := b4.trans (bJ.mono b4.size);have H := Lv (x.out Jw l J Jr);clear Jr Jb Jh bJ x;go_wp2_with fail
 refine H.out.mono ?_;rintro e w3 ⟨v, rfl, d, b6⟩;have b7 := l.trans (b6.mono l.size);have g := QQ d l.size;obtain ⟨n3, k⟩ : ∃ n3, n3 = (r).length := ⟨_, rfl⟩;rw [← k] at g d;obtain ⟨A3, c3, rfl⟩ := Zj d;have HF := Lv g;have HN := Lv k;have H4 := Lv b7;clear d g k b6 b7 l H;go_wp2_with fail
 go_ret
 exact ⟨_, rfl, by rw [← HN.out]; exact HF.out, H4.out⟩
end Go.Proofs.YtkoikjnlpifbjaaGreat
