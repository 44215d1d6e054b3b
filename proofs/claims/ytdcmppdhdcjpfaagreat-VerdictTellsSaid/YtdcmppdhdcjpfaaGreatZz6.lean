/- Lemmas for VerdictTellsP. -/
import Derived.Test.YtdcmppdhdcjpfaaGreatZz1
import Derived.Test.YtdcmppdhdcjpfaaGreatZz5
import Derived.Test.YtdcmppdhdcjpfaaGreatZz4
import Derived.Test.YtdcmppdhdcjpfaaGreatZz3
set_option linter.unusedVariables false
set_option linter.unusedSimpArgs false
set_option maxRecDepth 100000
set_option maxHeartbeats 16000000
namespace Go.Proofs.YtdcmppdhdcjpfaaGreat
open Go.RowKit Go.Deep
theorem XI : ∀ {ks : List Tr} {k : Tr}, k ∈ ks → k.size ≤ (QI ks).length
 | [], _, h => by simp at h
 | t :: ts, k, h => by
  rw [QI, Le]
  rcases Lv.1 h with rfl | h
  · simp [Tr.size]
  · have := XI h; omega
theorem EM {w : World} {base n : Nat} {e : TypeId} {v : Value} {xs : List Value} (h : w.ownsRow base e 1 v n xs) : ∃ A cap, v = .slice A n cap ∧ Rd w A xs ∧ n ≤ cap ∧ (A = none → cap = 0) := by
 have s : xs.length = n := by have := h.1; omega
 rcases h.2 with ⟨rfl, i⟩ | ⟨g, cap, b, rfl, r, l, k, t, o, p⟩
 · have q : xs = [] := Lt (by omega);subst q;refine ⟨none, 0, by rw [i], Rd.nil _ _, by omega, fun _ => rfl⟩
 · refine ⟨some ⟨g, 0, none⟩, cap, rfl, fun j u c => ⟨_, rfl, ?_⟩, k, fun h => by cases h⟩;have m : Row w g e b := l
   exact m.from_ 0 (cs := xs) (fun j v c => by
    rw [LI, ← Ni]
    have d : (b.toList.take (n * 1))[j]? = some v := by rw [p]; exact c
    rw [LP (by have := (Lb.1 c).1; omega)] at d; exact d) j u c
theorem Zm (W : World) (xs : List Value) (t : TypeId) : Rd (W.alloc (.cells xs.toArray t)) (some ⟨W.heap.size, 0, none⟩) xs := fun j u hj => ⟨_, rfl, Jj W xs t j u hj⟩
theorem YE {w : World} : (zeroValue 85).run Tryz.prog w = .ok (.agg #[.int .i64 0, .int .i64 0]) w := by kernel_rfl
theorem Abm {x : Nd} (h : x.tag = 2 ∨ x.tag = 3 ∨ x.tag = 26) (h0 : 0 ≤ Qq x) : Qq x = 0 := by
 unfold Qq at h0 ⊢;rw [if_neg (by omega)] at h0 ⊢;split at h0
 · omega
 · rename_i b;rw [if_neg b];unfold Q2;rcases h with h | h | h <;> simp [h]
theorem of3 {V : List Int} {n : Int} (h : 0 ≤ n) : ofT V (.node ⟨3, n⟩ []) = KJ (decide (ZK V n = 0 ∨ ZK V n = 1)) (ZK V n) := by
 rw [ZC rfl];have hi : isZ V ⟨3, n⟩ = if Jc V n then (V[n.toNat]?).getD 0 else -1 := rfl;rw [hi, ← X3 h];cases hp : Jc V n with
 | false => rfl
 | true =>
  rw [if_pos rfl, Abi h hp];have := X3 (V := V) h;rw [hp] at this;have b := of_decide_eq_true this.symm;rw [if_neg (by omega)]; rfl
theorem of4 {V : List Int} {n : Int} {ks : List Tr} (h : 0 ≤ n) : ofT V (.node ⟨4, n⟩ ks) = KJ (decide (0 < Qx (ZK V n)) && decide (ks.map (ofT V) = [0])) 0 := by
 rw [ZC rfl];have hi : isZ V ⟨4, n⟩ = if JV V n then 0 else -1 := rfl;rw [hi, ← Y4 h];cases hp : JV V n with
 | false => rfl
 | true => rw [if_pos rfl, if_neg (by omega)]; rfl
theorem Akg {V : List Int} {n : Int} {ks : List Tr} (h : 0 ≤ n) : ofT V (.node ⟨22, n⟩ ks) = KJ (decide (0 < Qx (ZK V n)) && decide (ks.map (ofT V) = [0, 0])) 2 := by
 rw [ZC rfl];have hi : isZ V ⟨22, n⟩ = if JV V n then 2 else -1 := rfl;rw [hi, ← Y4 h];cases hp : JV V n with
 | false => rfl
 | true => rw [if_pos rfl, if_neg (by omega)]; rfl
theorem Akf {V : List Int} {n : Int} {ks : List Tr} (h : 0 ≤ n) : ofT V (.node ⟨21, n⟩ ks) = KJ (decide (ZK V n = 0 ∨ ZK V n = 1) && decide (ks.map (ofT V) = [ZK V n])) 2 := by
 rw [ZC rfl];have hi : isZ V ⟨21, n⟩ = if Jc V n then 2 else -1 := rfl;have b : QQ V ⟨21, n⟩ ks.length = [(V[n.toNat]?).getD 0] := rfl;rw [hi, b, ← X3 h];cases hp : Jc V n with
 | false => rfl
 | true => rw [if_pos rfl, if_neg (by omega), Abi h hp]; rfl
theorem EU (p : PgV) (hbl : p.body.length ≤ 1000) : ∀ (n : Nat) (t : Tr) (q : Nat), t.size ≤ n → At p.body q t → ∀ w, p.ok w → Calls Tryz.prog 139 #[.agg p.cells, .int .i64 (q : Int)] w fun e w' => e = .returned (.int .i64 (ofT p.V t)) ∧ Below w.heap.size w w' := by
 intro n
 induction n with
 | zero => intro t q hn; have := t.size_eq; omega
 | succ n ih =>
 intro t q hn ae w ao;obtain ⟨⟨d, nn⟩, ks⟩ := t;have a5 := Lh hbl;have a3 : kidsZ p.body (q : Int) = QU (Q5 (q + 1) ks) := ae.kidsZ;obtain ⟨pos, af⟩ : ∃ pos, pos = Q5 (q + 1) ks := ⟨_, rfl⟩;rw [← af] at a3;have bf := Lh a3;have u : Hid (pos.length = ks.length) := by show _ = _; rw [af, ZP]
 have bc : ∀ (i q' : Nat) (v : Int), pos[i]? = some q' → (ks.map (ofT p.V))[i]? = some v → ∀ W, p.ok W → Calls Tryz.prog 139 #[.agg p.cells, .int .i64 (q' : Int)] W fun e W' => e = .returned (.int .i64 v) ∧ Below W.heap.size W W' := by
  intro i q' v h1 h2 W hW;rw [LA] at h2;obtain ⟨k, hk, rfl⟩ := N4.1 h2;rw [af] at h1;obtain ⟨bl, _⟩ := ae.kids.spot i q' k h1 hk;refine ih k q' ?_ bl W hW;have h3 := XI (Lf hk);have h4 := (Tr.node ⟨d, nn⟩ ks).size_eq;simp only [Tr.kids] at h4;omega
 have Hp : Hid (∀ (i q : Nat) (t : Tr), pos[i]? = some q → ks[i]? = some t → At p.body q t) := by
  show ∀ i q t, _;intro i q' t h1 h2;rw [af] at h1;exact (ae.kids.spot i q' t h1 h2).1
 have aa : Hid (pos.length ≤ 1000) := by
  show _ ≤ _
  have h5 : ∀ (ts : List Tr), ts.length ≤ (QI ts).length := fun ts => by
   induction ts with
   | nil => simp
   | cons t ts ih => rw [QI, Le, Lc]; have := t.size_eq; have bx : t.size = t.flat.length := rfl; omega
  have h3 := h5 ks;have h4 := (Tr.node ⟨d, nn⟩ ks).size_eq;simp only [Tr.kids] at h4;have := ae.le;rw [u.out]; omega
 have ac := Lh bc;have an := ae.fits;have a2 : 0 ≤ Qq ⟨d, nn⟩ := by have := an.arity; simp only [Tr.root, Tr.kids] at this; omega
 have bd : 1 ≤ d ∧ d ≤ 26 := by
  by_cases h : 1 ≤ d ∧ d ≤ 26
  · exact h
  · rw [Yw h] at a2; omega
 have bb : d ≠ 1 → 0 ≤ nn := fun h => by have := UH a2; simp only at this; omega
 have ar := Lh bb;have aq : Hid (Qq ⟨d, nn⟩ = (ks.length : Int)) := an.arity;have az : Hid (p.body[q]? = some ⟨d, nn⟩) := ae.root;have a6 : Hid (endZ p.body (q : Int) = ((q + (Tr.node ⟨d, nn⟩ ks).size : Nat) : Int)) := ae.endZ;have bw : (q : Int) < (p.body.length : Int) := by have := ae.lt; omega
 have a7 := Lh ao;clear a3 bc an a2 bb ao af ae ih hbl hn;obtain ⟨m, be⟩ : ∃ m, m = ZK p.V nn := ⟨_, rfl⟩;have ag := Lh be;clear be;go_enter Tryz.func139, Tryz.ntmps139
 go_wp2_with (refine Qn _ _ rfl ?_)
 refine Stop.to ?_;refine Qe rfl 25 _ rfl p.cells rfl ?_;intro G w1 hG r1 b1;have b1 := (Below.refl w.heap.size w).trans (b1.mono hG);have c2 := r1.cellv (i := 2) (v := .slice p.ba p.body.length p.bcap) rfl;have aj := Lh (a7.out.go b1);clear hG a7;go_wp2_with fail
 refine (Kj p.ba p.bcap p.body (q : Int) w1 aj.out.brd a5.out).mono ?_;rintro e w2 ⟨rfl, r⟩;rw [a6.out];have r1 := r1.below r r1.lt;have ak := Lh (aj.out.go r);have r := b1.trans (r.mono b1.size);have c2 := r1.cellv (i := 2) (v := .slice p.ba p.body.length p.bcap) rfl;obtain ⟨ad, a1, hc⟩ := Z9 ak.out.brd az.out;have Hc := Lh hc;have bq := Lh a1;have bn : 0 ≤ ((q + (Tr.node ⟨d, nn⟩ ks).size : Nat) : Int) := by omega
 have bo : decide ((q : Int) + ((Tr.node ⟨d, nn⟩ ks).size : Int) < 0) = false := by simp; omega
 have a8 := c2;rw [a1] at a8;clear b1 aj hc c2 a1
 go_wp2_with (first
  | (refine QE rfl 85 _ rfl (ad.add (q * 2)) rfl (Nd.cells ⟨d, nn⟩) _ Hc.out Tryz.underlying85 rfl (by kernel_rfl) ?_)
  | (refine QT _ rfl ?_))
 refine Stop.to ?_;refine Qm rfl 85 rfl _ _ YE rfl ?_;intro X w3 hX rX b3;go_wp2_with (refine Qv _ _ _ rfl ?_)
 refine Stop.to ?_;refine Ql rfl 85 _ _ rfl X (Nd.cells ⟨d, nn⟩).toArray rfl rfl 85 _ rX (by kernel_rfl) rfl (by simp [Nd.cells, Value.oneCell']) ?_;intro w4 r4 o4;have au : Below w2.heap.size w2 w4 := (b3.mono hX).trans (o4.below hX);have r1 := r1.below au r1.lt;have al := Lh (ak.out.go au);have b4 := r.trans (au.mono r.size);have c2 := r1.cellv (i := 2) (v := .slice p.ba p.body.length p.bcap) rfl;clear b3 o4 rX au r ak a8 hX Hc;go_wp2_with fail
 refine (Yp p.ba p.bcap p.body (q : Int) w4 al.out.brd a5.out).mono ?_;rintro e w5 ⟨kv, rfl, ap, b5⟩;rw [bf.out, XK] at ap;obtain ⟨KA, o, rfl, aw, bu, bv⟩ := EM ap;have r1 := r1.below b5 r1.lt;have r4 := r4.below b5 r4.lt;have am := Lh (al.out.go b5);have b5 := b4.trans (b5.mono b4.size);have bg := r4.cellv (i := 1) (v := .int .i64 nn) rfl;clear ap c2 al b4;go_wp2_with (refine wpList_load_row rfl 25 _ rfl G rfl 25 p.cells (0, 0) _ r1 Tryz.underlying25 rfl (by kernel_rfl) ?_)
 refine (Ago p nn w5 am.out).mono ?_;rintro e W ⟨rfl, b6⟩;rw [← ag.out];have r1 := r1.below b6 r1.lt;have r4 := r4.below b6 r4.lt;have aw := aw.go b6;have ao := am.out.go b6;have b6 := b5.trans (b6.mono b5.size);obtain ⟨S, ah⟩ : ∃ S, S = (fun W => Row W G 25 p.cells ∧ Row W X 85 (Nd.cells ⟨d, nn⟩).toArray ∧ Rd W KA (Qi (QU pos)) ∧ p.ok W ∧ Below w.heap.size w W) := ⟨_, rfl⟩;have ab : St S := by rw [ah]; infer_instance
 have S0 : Hid (∀ W, S W → Row W G 25 p.cells) := by show ∀ W, _; rw [ah]; exact fun W h => h.1
 have S1 : Hid (∀ W, S W → Rd W KA (Qi (QU pos))) := by show ∀ W, _; rw [ah]; exact fun W h => h.2.2.1
 have S2 : Hid (∀ W, S W → p.ok W) := by show ∀ W, _; rw [ah]; exact fun W h => h.2.2.2.1
 have S3 := S1;have S4 : Hid (∀ W, S W → Below w.heap.size w W) := by show ∀ W, _; rw [ah]; exact fun W h => h.2.2.2.2
 have g : S W := by rw [ah]; exact ⟨r1, r4, aw, ao, b6⟩
 have bh := r4.cellv (i := 0) (v := .int .i64 d) rfl;clear ah r1 r4 aw ao b6 b5 am bg;have a4 : d = 1 ∨ d = 2 ∨ d = 3 ∨ d = 4 ∨ d = 5 ∨ d = 6 ∨ d = 7 ∨ d = 8 ∨ d = 9 ∨ d = 10 ∨ d = 11 ∨ d = 12 ∨ d = 13 ∨ d = 14 ∨ d = 15 ∨ d = 16 ∨ d = 17 ∨ d = 18 ∨ d = 19 ∨ d = 20 ∨ d = 21 ∨ d = 22 ∨ d = 23 ∨ d = 24 ∨ d = 25 ∨ d = 26 := by omega
 clear bd;rcases a4 with rfl | rfl | rfl | rfl | rfl | rfl | rfl | rfl | rfl | rfl | rfl | rfl | rfl | rfl | rfl | rfl | rfl | rfl | rfl | rfl | rfl | rfl | rfl | rfl | rfl | rfl
 · obtain rfl : ks = [] := Lt (by have := aq.out; rw [Agw] at this; omega);have Hz : Hid (ofT p.V (.node ⟨1, nn⟩ []) = 0) := by show _ = _; exact (ZC rfl).trans (by rfl)
   go_wp2
   go_ret
   exact ⟨Qo Hz.out, S4.out _ g⟩
 · obtain rfl : ks = [] := Lt (by have := aq.out; have := Abm (x := ⟨2, nn⟩) (.inl rfl) (by omega); omega);have Hz : Hid (ofT p.V (.node ⟨2, nn⟩ []) = 1) := by show _ = _; exact (ZC rfl).trans (by rfl)
   go_wp2
   go_ret
   exact ⟨Qo Hz.out, S4.out _ g⟩
 · obtain rfl : ks = [] := Lt (by have := aq.out; have := Abm (x := ⟨3, nn⟩) (.inr (.inl rfl)) (by omega); omega);have hz := of3 (V := p.V) (ar.out (by omega));rw [← ag.out] at hz;have Hz := Lh hz;clear hz;by_cases h0 : m = 0
   · have e0 : (m == 0) = true := by simpa using h0
     have z : Hid (KJ (decide (m = 0 ∨ m = 1)) m = KJ true m) := by show _ = _; rw [decide_eq_true (.inl h0)]
     clear h0;go_wp2_with fail
     refine (Zc true m _).mono ?_;rintro e W3 ⟨rfl, rfl⟩;go_wp2
     go_ret
     exact ⟨Qo (by rw [Hz.out, z.out]), S4.out _ g⟩
   · have e0 : (m == 0) = false := by simpa using h0
     by_cases h1 : m = 1
     · have e1 : (m == 1) = true := by simpa using h1
       have z : Hid (KJ (decide (m = 0 ∨ m = 1)) m = KJ true m) := by show _ = _; rw [decide_eq_true (.inr h1)]
       clear h0 h1;go_wp2_with fail
       refine (Zc true m _).mono ?_;rintro e W3 ⟨rfl, rfl⟩;go_wp2
       go_ret
       exact ⟨Qo (by rw [Hz.out, z.out]), S4.out _ g⟩
     · have e1 : (m == 1) = false := by simpa using h1
       have z : Hid (KJ (decide (m = 0 ∨ m = 1)) m = KJ false m) := by show _ = _; rw [decide_eq_false (by omega)]
       clear h0 h1;go_wp2_with fail
       refine (Zc false m _).mono ?_;rintro e W3 ⟨rfl, rfl⟩;go_wp2
       go_ret
       exact ⟨Qo (by rw [Hz.out, z.out]), S4.out _ g⟩
 · have hz := of4 (V := p.V) (ks := ks) (ar.out (by omega));rw [← ag.out] at hz;have Hz := Lh hz;have ai := Lh (AaE (n := nn) (S2.out _ g).vin);rw [← ag.out] at ai;clear hz;by_cases h0 : 0 < Qx m
   · have s : Hid (decide (0 < Qx m) = true) := by show _ = _; exact decide_eq_true h0
     go_wp2_with fail
     refine (Jf m _ ai.out).mono ?_;rintro e W1 ⟨rfl, rfl⟩;go_wp2_with (refine Q6 rfl 25 _ rfl G rfl 25 p.cells (0, 0) _ (S0.out _ g) Tryz.underlying25 rfl (by kernel_rfl) ?_)
     refine (KF p KA _ o _ pos (ks.map (ofT p.V)) [0] _ (S2.out _ (St.alloc g _)) (S3.out _ (St.alloc g _)) (Zm W (Qi [0]) 3) (by simp [u.out]) aa.out ac.out).mono ?_;rintro e W2 ⟨rfl, r⟩;have j := ab.go (St.alloc g _) r;generalize y : decide (ks.map (ofT p.V) = [0]) = b;have z := Lh y;clear y r g;go_wp2_with fail
     refine (Zc b 0 _).mono ?_;rintro e W3 ⟨rfl, rfl⟩;go_wp2
     go_ret
     exact ⟨Qo (by rw [Hz.out, s.out, N7, z.out]), S4.out _ j⟩
   · have s : Hid (decide (0 < Qx m) = false) := by show _ = _; exact decide_eq_false h0
     have bi : Qx m ≤ 0 := by omega
     clear h0;go_wp2_with fail
     refine (Jf m _ ai.out).mono ?_;rintro e W1 ⟨rfl, rfl⟩;go_wp2_with fail
     refine (Zc false 0 _).mono ?_;rintro e W3 ⟨rfl, rfl⟩;go_wp2
     go_ret
     exact ⟨Qo (by rw [Hz.out, s.out, Bool.false_and]), S4.out _ g⟩
 · go_wp2_with (refine wpList_load_row rfl 25 _ rfl G rfl 25 p.cells (0, 0) _ (S0.out _ g) Tryz.underlying25 rfl (by kernel_rfl) ?_)
   refine (KF p KA _ o _ pos (ks.map (ofT p.V)) [0] _ (S2.out _ (St.alloc g _)) (S3.out _ (St.alloc g _)) (Zm W (Qi [0]) 3) (by simp [u.out]) aa.out ac.out).mono ?_;rintro e W2 ⟨rfl, r⟩;have j := ab.go (St.alloc g _) r;generalize y : decide (ks.map (ofT p.V) = [0]) = b;have z := Lh y;clear y r g;go_wp2_with fail
   refine (Zc b 0 _).mono ?_;rintro e W3 ⟨rfl, rfl⟩;go_wp2
   go_ret
   exact ⟨Qo ((ZC rfl).trans (by rw [← z.out]; rfl)), S4.out _ j⟩
 · go_wp2_with (refine wpList_load_row rfl 25 _ rfl G rfl 25 p.cells (0, 0) _ (S0.out _ g) Tryz.underlying25 rfl (by kernel_rfl) ?_)
   refine (KF p KA _ o _ pos (ks.map (ofT p.V)) [1] _ (S2.out _ (St.alloc g _)) (S3.out _ (St.alloc g _)) (Zm W (Qi [1]) 3) (by simp [u.out]) aa.out ac.out).mono ?_;rintro e W2 ⟨rfl, r⟩;have j := ab.go (St.alloc g _) r;generalize y : decide (ks.map (ofT p.V) = [1]) = b;have z := Lh y;clear y r g;go_wp2_with fail
   refine (Zc b 1 _).mono ?_;rintro e W3 ⟨rfl, rfl⟩;go_wp2
   go_ret
   exact ⟨Qo ((ZC rfl).trans (by rw [← z.out]; rfl)), S4.out _ j⟩
 iterate 5
  · skip
    go_wp2_with (refine wpList_load_row rfl 25 _ rfl G rfl 25 p.cells (0, 0) _ (S0.out _ g) Tryz.underlying25 rfl (by kernel_rfl) ?_)
    refine (KF p KA _ o _ pos (ks.map (ofT p.V)) [0, 0] _ (S2.out _ (St.alloc g _)) (S3.out _ (St.alloc g _)) (Zm W (Qi [0, 0]) 3) (by simp [u.out]) aa.out ac.out).mono ?_
    rintro e W2 ⟨rfl, r⟩
    have j := ab.go (St.alloc g _) r
    generalize y : decide (ks.map (ofT p.V) = [0, 0]) = b
    have z := Lh y
    clear y r g
    go_wp2_with fail
    refine (Zc b 0 _).mono ?_
    rintro e W3 ⟨rfl, rfl⟩
    go_wp2
    go_ret
    exact ⟨Qo ((ZC rfl).trans (by rw [← z.out]; rfl)), S4.out _ j⟩
 iterate 6
  · skip
    go_wp2_with (refine wpList_load_row rfl 25 _ rfl G rfl 25 p.cells (0, 0) _ (S0.out _ g) Tryz.underlying25 rfl (by kernel_rfl) ?_)
    refine (KF p KA _ o _ pos (ks.map (ofT p.V)) [0, 0] _ (S2.out _ (St.alloc g _)) (S3.out _ (St.alloc g _)) (Zm W (Qi [0, 0]) 3) (by simp [u.out]) aa.out ac.out).mono ?_
    rintro e W2 ⟨rfl, r⟩
    have j := ab.go (St.alloc g _) r
    generalize y : decide (ks.map (ofT p.V) = [0, 0]) = b
    have z := Lh y
    clear y r g
    go_wp2_with fail
    refine (Zc b 1 _).mono ?_
    rintro e W3 ⟨rfl, rfl⟩
    go_wp2
    go_ret
    exact ⟨Qo ((ZC rfl).trans (by rw [← z.out]; rfl)), S4.out _ j⟩
 iterate 2
  · skip
    go_wp2_with (refine wpList_load_row rfl 25 _ rfl G rfl 25 p.cells (0, 0) _ (S0.out _ g) Tryz.underlying25 rfl (by kernel_rfl) ?_)
    refine (KF p KA _ o _ pos (ks.map (ofT p.V)) [1, 1] _ (S2.out _ (St.alloc g _)) (S3.out _ (St.alloc g _)) (Zm W (Qi [1, 1]) 3) (by simp [u.out]) aa.out ac.out).mono ?_
    rintro e W2 ⟨rfl, r⟩
    have j := ab.go (St.alloc g _) r
    generalize y : decide (ks.map (ofT p.V) = [1, 1]) = b
    have z := Lh y
    clear y r g
    go_wp2_with fail
    refine (Zc b 1 _).mono ?_
    rintro e W3 ⟨rfl, rfl⟩
    go_wp2
    go_ret
    exact ⟨Qo ((ZC rfl).trans (by rw [← z.out]; rfl)), S4.out _ j⟩
 · have Hz : Hid (ofT p.V (.node ⟨20, nn⟩ ks) = KJ (decide (ks.map (ofT p.V) = List.replicate ks.length 2)) 2) := by show _ = _; exact (ZC rfl).trans (by rfl)
   go_wp2
   go_loopw [8] (fun i wr => ∃ k : Nat, i = .int .i64 (k : Int) ∧ k ≤ pos.length ∧ S wr ∧ Hid ((ks.map (ofT p.V)).take k = List.replicate k 2)) (fun i _ => pos.length - (intOf i).toNat)
   case atStart => exact ⟨0, rfl, Nat.zero_le _, g, Lh rfl⟩
   case round =>
    clear g bh;obtain ⟨k, rfl, hk, av, ay⟩ := hrel;by_cases ax : k < pos.length
    · obtain ⟨q', hq⟩ : ∃ q, pos[k]? = some q := ⟨_, La ax⟩;obtain ⟨v, hv⟩ : ∃ v, (ks.map (ofT p.V))[k]? = some v := ⟨_, La (by rw [L3, ← u.out]; exact ax)⟩;have a9 := Lh (ac.out k q' v hq hv);obtain ⟨kd, bm, _⟩ := QR (l := QU pos) (S1.out _ av) (k := k) (x := (q' : Int)) (by simp [QU, hq]);subst bm
      have bj : Hid (∀ W, S W → W.cell? (kd.add k) = some (.int .i64 (q' : Int))) := by
       show ∀ W, _;intro W hW;obtain ⟨br, e, h⟩ := QR (l := QU pos) (S1.out _ hW) (k := k) (x := (q' : Int)) (by simp [QU, hq]);injection e with e; subst e; exact h
      have bt : (k : Int) < (pos.length : Int) := by omega
      have Hv := Lh hv;have bp := aa.out;clear hq hv ax;go_wp2_with fail
      refine ZA S (by kernel_rfl) (by kernel_rfl) (St.drew av) ?_;clear av;(refine QD rfl 25 _ rfl (G) rfl 25 _ _ S0.out Tryz.underlying25 rfl (by kernel_rfl) ?_; simp only [Act.put, Qa, Qb, Qc])
      iterate 3 (refine Qf rfl ?_ (fun W hW => ?_) ?_; rotate_left; (focus (go_simp; exact rfl)); simp only [Act.put, Qa, Qb, Qc])
      (refine Qf rfl ?_ (fun W hW => ?_) ?_; rotate_left; (focus (have c := bj.out W hW; go_simp; exact rfl)); simp only [Act.put, Qa, Qb, Qc]);(refine QB rfl 139 _ (fun W => by (go_simp; try rfl)) _ (fun W hW => a9.out W (S2.out _ hW)) ?_; simp only [Act.put, Qa, Qb, Qc])
      iterate 1 (refine Qf rfl ?_ (fun W hW => ?_) ?_; rotate_left; (focus (go_simp; exact rfl)); simp only [Act.put, Qa, Qb, Qc])
      refine QG fun W hW => ?_
      by_cases he : v = 2
      · have bk : (v != 2) = false := by simp [he]
        have He := Lh he;clear he;go_wp2
        go_roundw
        case rel =>
         refine ⟨k + 1, by go_num, by omega, hW, Lh ?_⟩;rw [L6, ay.out, Hv.out, He.out, List.replicate_succ']; rfl
        case measure => simp [intOf]; omega
      · have bk : (v != 2) = true := by simpa using he
        have s : Hid (decide (ks.map (ofT p.V) = List.replicate ks.length 2) = false) := by
         show _ = _;refine decide_eq_false (fun e => he ?_);have h1 := Hv.out;rw [e] at h1;exact List.eq_of_mem_replicate (Lf h1)
        clear he;go_wp2
        go_ret
        exact ⟨Qo (by rw [Hz.out, s.out]; rfl), S4.out _ hW⟩
    · have bs : (pos.length : Int) ≤ (k : Int) := by omega
      obtain rfl : k = pos.length := by omega
      have s : Hid (decide (ks.map (ofT p.V) = List.replicate ks.length 2) = true) := by
       show _ = _;have := ay.out;rw [u.out, L1 (by simp)] at this;exact decide_eq_true this
      clear ax;go_wp2
      go_ret
      exact ⟨Qo (by rw [Hz.out, s.out]; rfl), S4.out _ av⟩
 · have hz := Akf (V := p.V) (ks := ks) (ar.out (by omega));rw [← ag.out] at hz;have Hz := Lh hz;clear hz;by_cases h0 : m = 0
   · have e0 : (m == 0) = true := by simpa using h0
     have s : Hid (decide (m = 0 ∨ m = 1) = true) := by show _ = _; rw [decide_eq_true (.inl h0)]
     clear h0;go_wp2_with (refine Q6 rfl 25 _ rfl G rfl 25 p.cells (0, 0) _ (S0.out _ g) Tryz.underlying25 rfl (by kernel_rfl) ?_)
     refine (KF p KA _ o _ pos (ks.map (ofT p.V)) [m] _ (S2.out _ (St.alloc g _)) (S3.out _ (St.alloc g _)) (Zm W (Qi [m]) 3) (by simp [u.out]) aa.out ac.out).mono ?_;rintro e W2 ⟨rfl, r⟩;have j := ab.go (St.alloc g _) r;generalize y : decide (ks.map (ofT p.V) = [m]) = b;have z := Lh y;clear y r g;go_wp2_with fail
     refine (Zc b 2 _).mono ?_;rintro e W3 ⟨rfl, rfl⟩;go_wp2
     go_ret
     exact ⟨Qo (by rw [Hz.out, s.out, N7, z.out]), S4.out _ j⟩
   · have e0 : (m == 0) = false := by simpa using h0
     by_cases h1 : m = 1
     · have e1 : (m == 1) = true := by simpa using h1
       have s : Hid (decide (m = 0 ∨ m = 1) = true) := by show _ = _; rw [decide_eq_true (.inr h1)]
       clear h0 h1;go_wp2_with (refine Q6 rfl 25 _ rfl G rfl 25 p.cells (0, 0) _ (S0.out _ g) Tryz.underlying25 rfl (by kernel_rfl) ?_)
       refine (KF p KA _ o _ pos (ks.map (ofT p.V)) [m] _ (S2.out _ (St.alloc g _)) (S3.out _ (St.alloc g _)) (Zm W (Qi [m]) 3) (by simp [u.out]) aa.out ac.out).mono ?_;rintro e W2 ⟨rfl, r⟩;have j := ab.go (St.alloc g _) r;generalize y : decide (ks.map (ofT p.V) = [m]) = b;have z := Lh y;clear y r g;go_wp2_with fail
       refine (Zc b 2 _).mono ?_;rintro e W3 ⟨rfl, rfl⟩;go_wp2
       go_ret
       exact ⟨Qo (by rw [Hz.out, s.out, N7, z.out]), S4.out _ j⟩
     · have e1 : (m == 1) = false := by simpa using h1
       have s : Hid (decide (m = 0 ∨ m = 1) = false) := by show _ = _; rw [decide_eq_false (by omega)]
       clear h0 h1;go_wp2_with fail
       refine (Zc false 2 _).mono ?_;rintro e W3 ⟨rfl, rfl⟩;go_wp2
       go_ret
       exact ⟨Qo (by rw [Hz.out, s.out, Bool.false_and]), S4.out _ g⟩
 · have hz := Akg (V := p.V) (ks := ks) (ar.out (by omega));rw [← ag.out] at hz;have Hz := Lh hz;have ai := Lh (AaE (n := nn) (S2.out _ g).vin);rw [← ag.out] at ai;clear hz;by_cases h0 : 0 < Qx m
   · have s : Hid (decide (0 < Qx m) = true) := by show _ = _; exact decide_eq_true h0
     go_wp2_with fail
     refine (Jf m _ ai.out).mono ?_;rintro e W1 ⟨rfl, rfl⟩;go_wp2_with (refine Q6 rfl 25 _ rfl G rfl 25 p.cells (0, 0) _ (S0.out _ g) Tryz.underlying25 rfl (by kernel_rfl) ?_)
     refine (KF p KA _ o _ pos (ks.map (ofT p.V)) [0, 0] _ (S2.out _ (St.alloc g _)) (S3.out _ (St.alloc g _)) (Zm W (Qi [0, 0]) 3) (by simp [u.out]) aa.out ac.out).mono ?_;rintro e W2 ⟨rfl, r⟩;have j := ab.go (St.alloc g _) r;generalize y : decide (ks.map (ofT p.V) = [0, 0]) = b;have z := Lh y;clear y r g;go_wp2_with fail
     refine (Zc b 2 _).mono ?_;rintro e W3 ⟨rfl, rfl⟩;go_wp2
     go_ret
     exact ⟨Qo (by rw [Hz.out, s.out, N7, z.out]), S4.out _ j⟩
   · have s : Hid (decide (0 < Qx m) = false) := by show _ = _; exact decide_eq_false h0
     have bi : Qx m ≤ 0 := by omega
     clear h0;go_wp2_with fail
     refine (Jf m _ ai.out).mono ?_;rintro e W1 ⟨rfl, rfl⟩;go_wp2_with fail
     refine (Zc false 2 _).mono ?_;rintro e W3 ⟨rfl, rfl⟩;go_wp2
     go_ret
     exact ⟨Qo (by rw [Hz.out, s.out, Bool.false_and]), S4.out _ g⟩
 · have Hz : Hid (ofT p.V (.node ⟨23, nn⟩ ks) = KJ (decide (ks.map (ofT p.V) = [1, 2, 2]) && JK ks 1) 2) := by show _ = _; exact (Aa5 rfl).trans (by rfl)
   go_wp2_with (refine wpList_load_row rfl 25 _ rfl G rfl 25 p.cells (0, 0) _ (S0.out _ g) Tryz.underlying25 rfl (by kernel_rfl) ?_)
   refine (KF p KA _ o _ pos (ks.map (ofT p.V)) [1, 2, 2] _ (S2.out _ (St.alloc g _)) (S3.out _ (St.alloc g _)) (Zm W (Qi [1, 2, 2]) 3) (by simp [u.out]) aa.out ac.out).mono ?_;rintro e W2 ⟨rfl, r⟩;have j := ab.go (St.alloc g _) r;generalize y : decide (ks.map (ofT p.V) = [1, 2, 2]) = b;have z := Lh y;clear y r g;cases b with
   | true =>
    go_wp2_with (refine Q6 rfl 25 _ rfl G rfl 25 p.cells (0, 0) _ (S0.out _ j) Tryz.underlying25 rfl (by kernel_rfl) ?_)
    refine (VQ p KA o pos ks W2 (S2.out _ j) (S3.out _ j) u.out Hp.out aa.out).mono ?_;rintro e W4 ⟨rfl, b4⟩;have a0 := ab.go j b4;generalize hc : JK ks 1 = c;have Hc := Lh hc;clear hc b4 j;go_wp2_with fail
    refine (Zc c 2 _).mono ?_;rintro e W3 ⟨rfl, rfl⟩;go_wp2
    go_ret
    exact ⟨Qo (by rw [Hz.out, z.out, Hc.out, N7]), S4.out _ a0⟩
   | false =>
    go_wp2_with fail
    refine (Zc false 2 _).mono ?_;rintro e W3 ⟨rfl, rfl⟩;go_wp2
    go_ret
    exact ⟨Qo (by rw [Hz.out, z.out, Bool.false_and]), S4.out _ j⟩
 · have Hz : Hid (ofT p.V (.node ⟨24, nn⟩ ks) = KJ (decide (ks.map (ofT p.V) = [1, 2]) && JK ks 1) 2) := by show _ = _; exact (Aa5 rfl).trans (by rfl)
   go_wp2_with (refine wpList_load_row rfl 25 _ rfl G rfl 25 p.cells (0, 0) _ (S0.out _ g) Tryz.underlying25 rfl (by kernel_rfl) ?_)
   refine (KF p KA _ o _ pos (ks.map (ofT p.V)) [1, 2] _ (S2.out _ (St.alloc g _)) (S3.out _ (St.alloc g _)) (Zm W (Qi [1, 2]) 3) (by simp [u.out]) aa.out ac.out).mono ?_;rintro e W2 ⟨rfl, r⟩;have j := ab.go (St.alloc g _) r;generalize y : decide (ks.map (ofT p.V) = [1, 2]) = b;have z := Lh y;clear y r g;cases b with
   | true =>
    go_wp2_with (refine Q6 rfl 25 _ rfl G rfl 25 p.cells (0, 0) _ (S0.out _ j) Tryz.underlying25 rfl (by kernel_rfl) ?_)
    refine (VQ p KA o pos ks W2 (S2.out _ j) (S3.out _ j) u.out Hp.out aa.out).mono ?_;rintro e W4 ⟨rfl, b4⟩;have a0 := ab.go j b4;generalize hc : JK ks 1 = c;have Hc := Lh hc;clear hc b4 j;go_wp2_with fail
    refine (Zc c 2 _).mono ?_;rintro e W3 ⟨rfl, rfl⟩;go_wp2
    go_ret
    exact ⟨Qo (by rw [Hz.out, z.out, Hc.out, N7]), S4.out _ a0⟩
   | false =>
    go_wp2_with fail
    refine (Zc false 2 _).mono ?_;rintro e W3 ⟨rfl, rfl⟩;go_wp2
    go_ret
    exact ⟨Qo (by rw [Hz.out, z.out, Bool.false_and]), S4.out _ j⟩
 · go_wp2_with (refine wpList_load_row rfl 25 _ rfl G rfl 25 p.cells (0, 0) _ (S0.out _ g) Tryz.underlying25 rfl (by kernel_rfl) ?_)
   refine (KF p KA _ o _ pos (ks.map (ofT p.V)) [0] _ (S2.out _ (St.alloc g _)) (S3.out _ (St.alloc g _)) (Zm W (Qi [0]) 3) (by simp [u.out]) aa.out ac.out).mono ?_;rintro e W2 ⟨rfl, r⟩;have j := ab.go (St.alloc g _) r;generalize y : decide (ks.map (ofT p.V) = [0]) = b;have z := Lh y;clear y r g;go_wp2_with fail
   refine (Zc b 2 _).mono ?_;rintro e W3 ⟨rfl, rfl⟩;go_wp2
   go_ret
   exact ⟨Qo ((ZC rfl).trans (by rw [← z.out]; rfl)), S4.out _ j⟩
 · obtain rfl : ks = [] := Lt (by have := aq.out; have := Abm (x := ⟨26, nn⟩) (.inr (.inr rfl)) (by omega); omega);have Hz : Hid (ofT p.V (.node ⟨26, nn⟩ []) = 2) := by show _ = _; exact (ZC rfl).trans (by rfl)
   go_wp2
   go_ret
   exact ⟨Qo Hz.out, S4.out _ g⟩
def JG (k : Int) : Option (Int × List Int) :=
 if k = 1 then some (0, []) else if k = 2 then some (1, []) else if k = 5 then some (0, [0]) else if k = 6 then some (1, [1]) else if k = 18 then some (1, [1, 1]) else if k = 19 then some (1, [1, 1])
 else if k = 23 then some (2, [1, 2, 2]) else if k = 24 then some (2, [1, 2]) else if k = 25 then some (2, [0]) else if k = 26 then some (2, [])
 else if 7 ≤ k ∧ k ≤ 11 then some (0, [0, 0]) else if 12 ≤ k ∧ k ≤ 17 then some (1, [0, 0]) else none
def AhR (k : Int) : Option (Int × List Int) := if k = 4 then some (0, [0]) else if k = 22 then some (2, [0, 0]) else none
inductive RuleR (W : World) : Int → Value → Prop
 | plain (k is : Int) (A : Option Addr) (n cap : Nat) (want : List Int) (hc : JG k = some (is, want)) (hn : n = want.length) (hr : Rd W A (Qi want)) : RuleR W k (.iface 257 (.agg #[.slice A n cap, .int .i64 is]))
 | scalar (k : Int) (b : Bool) (h : k = 3 ∧ b = false ∨ k = 21 ∧ b = true) : RuleR W k (.iface 259 (.agg #[.bool b]))
 | array (k is : Int) (A : Option Addr) (n cap : Nat) (want : List Int) (hc : AhR k = some (is, want)) (hn : n = want.length) (hr : Rd W A (Qi want)) : RuleR W k (.iface 261 (.agg #[.slice A n cap, .int .i64 is]))
theorem RuleR.go {W W' : World} {k : Int} {v : Value} (h : RuleR W k v) (b : Below W.heap.size W W') : RuleR W' k v := by
 cases h with
 | plain is A n cap want hc hn hr => exact .plain _ _ _ _ _ _ hc hn (hr.go b)
 | scalar b' h => exact .scalar _ _ h
 | array is A n cap want hc hn hr => exact .array _ _ _ _ _ _ hc hn (hr.go b)
theorem Rd.only_map {W W' : World} {A : Option Addr} {xs : List Value} {M : Nat} {es : List (Int × Value)} (h : Rd W A xs) (hm : MapB W M es) (o : Only M W W') : Rd W' A xs := fun j u hj => by
 obtain ⟨d, e, g⟩ := h j u hj;refine ⟨d, e, ?_⟩
 have c : (d.add j).block ≠ M := fun i => by
  obtain ⟨arr, b, k, _⟩ := hm;simp [World.cell?, i, k] at g
 rw [← g];simp only [World.cell?, o.block _ c]
theorem RuleR.only {W W' : World} {k : Int} {v : Value} {M : Nat} {es : List (Int × Value)} (h : RuleR W k v) (hm : MapB W M es) (o : Only M W W') : RuleR W' k v := by
 cases h with
 | plain is A n cap want hc hn hr => exact .plain _ _ _ _ _ _ hc hn (hr.only_map hm o)
 | scalar b' h => exact .scalar _ _ h
 | array is A n cap want hc hn hr => exact .array _ _ _ _ _ _ hc hn (hr.only_map hm o)
structure RS (w W : World) (M : Nat) (D : List Int) : Prop where
 below : Below w.heap.size w W
 lo : w.heap.size ≤ M
 map : ∃ es, MapB W M es ∧ es.map (·.1) = D ∧ ∀ p ∈ es, RuleR W p.1 p.2
theorem RS.go {w W W' : World} {M : Nat} {D : List Int} (h : RS w W M D) (b : Below W.heap.size W W') : RS w W' M D := by
 obtain ⟨d, c, e, g⟩ := h.map;exact ⟨h.below.trans (b.mono h.below.size), h.lo, d, c.below b c.lt, e, fun p i => (g p i).go b⟩
theorem RS.alloc {w W : World} {M : Nat} {D : List Int} (h : RS w W M D) (o : Obj) : RS w (W.alloc o) M D := h.go ((Below.refl _ _).alloc (Nat.le_refl _) o)
theorem YJ {k : Int} : ∀ {es : List (Int × Value)}, k ∉ es.map (·.1) → JD k es = none
 | [], _ => rfl
 | (k', v) :: es, h => by
  rw [JD, if_neg (fun e => h (by simp [e]))]
  exact YJ (fun hm => h (by simp at hm ⊢; exact .inr hm))
theorem AaI {k : Int} {v : Value} : ∀ {es : List (Int × Value)}, JD k es = some v → (k, v) ∈ es
 | [], h => by cases h
 | (k', v') :: es, h => by
  rw [JD] at h
  split at h
  · rename_i e; injection h with h; subst e h; simp
  · exact List.mem_cons_of_mem _ (AaI h)
theorem VO {k : Int} : ∀ {es : List (Int × Value)}, k ∈ es.map (·.1) → ∃ v, JD k es = some v
 | [], h => by simp at h
 | (k', v') :: es, h => by
  rw [JD]
  by_cases e : k = k'
  · exact ⟨v', if_pos e⟩
  · rw [if_neg e]
    refine VO ?_
    simp only [LF, Lv] at h
    rcases h with h | h
    · exact absurd h e
    · exact h
theorem Km {ops : Array Oper} {rest : List Oper} {o : Oper} {a : Act} {w W : World} {Q : Exit → Act → World → Prop} {M : Nat} {D : List Int} (hgd : o.guard = none) (m x y : Operand) (ho : o.op = .insert 191 m x y ∨ o.op = .mapUpdate 191 m x y) (hm : a.eval m = .map (some M)) (k : Int) (v : Value) (hx : a.eval x = .int .i64 k) (hy : a.eval y = v) (hs : RS w W M D) (hn : k ∉ D) (hr : RuleR W k v)
 (h : ∀ W', RS w W' M (D ++ [k]) → wpList Tryz.prog ops Q rest (a.put o.dst undef) W') : wpList Tryz.prog ops Q (o :: rest) a W := by
 obtain ⟨j, c, e, g⟩ := hs.map;subst e;refine Xx hgd m x y ho Tryz.underlying191 Tryz.underlying3 c hm k v hx hy (YJ hn) ?_;intro W' i d;refine h W' ⟨Qp hs.below d hs.lo, hs.lo, _, i, by simp, fun p b => ?_⟩;rcases Lz.1 b with b | b
 · exact (g p b).only c d
 · rw [Lo.1 b]; exact hr.only c d
theorem Agh (w : World) : Calls Tryz.prog 127 #[] w fun e w' => ∃ M D, e = .returned (.map (some M)) ∧ RS w w' M D ∧ ∀ k, k ∈ D ↔ (1 ≤ k ∧ k ≤ 26 ∧ k ≠ 20) := by
 have q : ∀ w : World, (Instr.makeMap 191 none).run Tryz.prog w = .ok (.map (some w.heap.size)) (w.alloc (.map #[] 0)) := fun _ => by kernel_rfl
 go_enter Tryz.func127, Tryz.ntmps127
 have r0 : RS w (w.alloc (.map #[] 0)) w.heap.size [] := ⟨(Below.refl _ _).alloc (Nat.le_refl _) _, Nat.le_refl _, [], MapB.new w, rfl, fun p z => by simp at z⟩;obtain ⟨M, m⟩ : ∃ M, M = w.heap.size := ⟨_, rfl⟩;go_wp2_with (refine Km rfl _ _ _ (.inl rfl) rfl _ _ rfl rfl (by first | assumption | exact RS.alloc (by assumption) _) (by decide) (by first | exact RuleR.scalar _ _ (by decide) | exact RuleR.plain _ _ _ _ _ [] rfl rfl (Rd.nil _ _) | exact RuleR.plain _ _ _ _ _ [0] rfl rfl (Zm _ (Qi [0]) _) | exact RuleR.plain _ _ _ _ _ [1] rfl rfl (Zm _ (Qi [1]) _) | exact RuleR.plain _ _ _ _ _ [1, 1] rfl rfl (Zm _ (Qi [1, 1]) _) | exact RuleR.plain _ _ _ _ _ [1, 2] rfl rfl (Zm _ (Qi [1, 2]) _) | exact RuleR.plain _ _ _ _ _ [1, 2, 2] rfl rfl (Zm _ (Qi [1, 2, 2]) _) | exact RuleR.array _ _ _ _ _ [0] rfl rfl (Zm _ (Qi [0]) _) | exact RuleR.array _ _ _ _ _ [0, 0] rfl rfl (Zm _ (Qi [0, 0]) _)) ?_; intro t r)
 have b : RS w t M ([1, 2, 3, 21, 4, 22, 5, 6, 18, 19, 23, 24, 25, 26]) := by rw [m]; exact r
 have HM := Lh m;rw [← m];clear r r0 q m;go_loopw [2] (fun i wr => ∃ (k : Nat) (D : List Int), i = .int .i64 (k : Int) ∧ 7 ≤ k ∧ k ≤ 18 ∧ RS w wr M D ∧ Hid (∀ j : Int, j ∈ D ↔ (j ∈ [1, 2, 3, 21, 4, 22, 5, 6, 18, 19, 23, 24, 25, 26] ∨ (7 ≤ j ∧ j < (k : Int))))) (fun i _ => 18 - (intOf i).toNat)
 case atStart => exact ⟨7, _, rfl, by omega, by omega, b, Lh (fun j => ⟨.inl, fun h => h.elim id (fun h => by omega)⟩)⟩
 case round =>
  clear b;obtain ⟨k, D, rfl, h7, x, b, l⟩ := hrel;by_cases y : k < 18
  · have d : (k : Int) ∉ D := fun h => by
     rcases (l.out (k : Int)).1 h with h | h
     · simp only [Lv, L5, or_false] at h; omega
     · omega
    have c := Lh d;clear d;by_cases v : k < 12
    · have g : JG (k : Int) = some (0, [0, 0]) := by
       unfold JG
       repeat (first | rw [if_neg (show ¬ _ by omega)] | rw [if_pos (show _ by omega)])
      have n := Lh g;clear g;go_wp2_with (refine Km rfl _ _ _ (.inr rfl) rfl _ _ rfl rfl (RS.alloc b _) c.out (RuleR.plain _ _ _ _ _ [0, 0] n.out rfl (Zm wr (Qi [0, 0]) _)) ?_; intro u o)
      go_roundw
      case rel =>
       refine ⟨k + 1, _, by go_num, by omega, by omega, o, Lh (fun j => ?_)⟩;rw [Lz, l.out j, Lo];constructor
       · rintro ((h | h) | h)
         · exact .inl h
         · exact .inr (by omega)
         · exact .inr (by omega)
       · rintro (h | h)
         · exact .inl (.inl h)
         · by_cases e : j = (k : Int)
           · exact .inr e
           · exact .inl (.inr (by omega))
      case measure => simp [intOf]; omega
    · have s : 12 ≤ k := by omega
      have g : JG (k : Int) = some (1, [0, 0]) := by
       unfold JG
       repeat (first | rw [if_neg (show ¬ _ by omega)] | rw [if_pos (show _ by omega)])
      have n := Lh g;clear g;go_wp2_with (refine Km rfl _ _ _ (.inr rfl) rfl _ _ rfl rfl (RS.alloc b _) c.out (RuleR.plain _ _ _ _ _ [0, 0] n.out rfl (Zm wr (Qi [0, 0]) _)) ?_; intro u o)
      go_roundw
      case rel =>
       refine ⟨k + 1, _, by go_num, by omega, by omega, o, Lh (fun j => ?_)⟩;rw [Lz, l.out j, Lo];constructor
       · rintro ((h | h) | h)
         · exact .inl h
         · exact .inr (by omega)
         · exact .inr (by omega)
       · rintro (h | h)
         · exact .inl (.inl h)
         · by_cases e : j = (k : Int)
           · exact .inr e
           · exact .inl (.inr (by omega))
      case measure => simp [intOf]; omega
  · obtain rfl : k = 18 := by omega
    go_wp2
    go_ret
    refine ⟨M, D, rfl, b, fun j => ?_⟩;rw [l.out j];simp only [Lv, L5, or_false];omega
end Go.Proofs.YtdcmppdhdcjpfaaGreat
