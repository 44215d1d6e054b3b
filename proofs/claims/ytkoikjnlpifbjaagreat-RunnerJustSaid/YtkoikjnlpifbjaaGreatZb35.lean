/- Lemmas for RunnerJustP. -/
import Derived.Test.YtkoikjnlpifbjaaGreatZb1
import Derived.Test.YtkoikjnlpifbjaaGreatZb34
set_option linter.unusedVariables false
set_option linter.unusedSimpArgs false
set_option maxRecDepth 100000
set_option maxHeartbeats 16000000
namespace Go.Proofs.YtkoikjnlpifbjaaGreat
open Go.RowKit Go.Deep
attribute [local go_sem] Oper.semAt_some
noncomputable def ZF (p : PgV) (ts : List (List Int)) (fuel : Int) : List Rn := if Ze p ts fuel = 0 then ts.map (rnZ p fuel) else []
structure BaseR (p : PgV) (ts : List (List Int)) (fuel : Int) (w w' : World) (e : Ending) : Prop where
 ex : ∃ v, e = .returned (.tuple #[v, .int .i64 (Ze p ts fuel)]) ∧ w'.ownsRow w.heap.size 52 2 v (ZF p ts fuel).length (JD (ZF p ts fuel)) ∧ Below w.heap.size w w'
theorem Aji : (Tryz.prog.info? 52).map (fun i => (i.zero, i.size, i.bytes)) = some (some (.agg #[.int .i64 0, .int .i64 0]), 2, 16) := by kernel_rfl
theorem Aeb (w : World) : (zeroValue 86).run Tryz.prog w = .ok (.slice none 0 0) w := by kernel_rfl
theorem Aku (r : Rn) : ∀ u ∈ r.cells.toList, u.oneCell' = true := by
 intro u b;simp only [Rn.cells, Xn, L2, L9, or_false] at b;rcases b with rfl | rfl <;> rfl
theorem AjT {ts : List (List Int)} {f : List Int → Rn} {pre : List RnX} {x : RnX} {l : List Int} (h : pre.map RnX.rn = (ts.take pre.length).map f) (hl : ts[pre.length]? = some l) (hx : x.rn = f l) : (pre ++ [x]).map RnX.rn = (ts.take (pre ++ [x]).length).map f := by
 rw [LT, h, Lf, Ni, LG, hl];simp [hx]
theorem Ajo {X : Nat → Prop} {A B : World} {lim n size : Nat} {e : TypeId} {v : Value} {xs : List Value} (h : A.ownsRow lim e size v n xs) (hg : A.grownBy B v.ownBlock) (hX : ∀ k, lim ≤ k → X k) : KpX X A B :=
 ⟨fun k o hx ho => (hg.block k (Lt.1 ho).1 (fun e => hx (hX _ (by
  rcases h.2 with ⟨rfl, _⟩ | ⟨g, _, _, rfl, h1, _⟩
  · simp [Value.ownBlock] at e
  · simp [Value.ownBlock] at e; omega)))).trans ho, hg.size⟩
theorem XL {p : PgV} {ts : List IntsV} {fuel : Int} (h : Ze p (ts.map IntsV.l) fuel = 0) : ∀ x ∈ ts, x.l.length ≤ 1000 := by
 intro x g;unfold Ze at h;split at h
 · rename_i b; exact absurd h b
 rename_i b
 have d : Jt p.params p.V = 0 := by
  unfold QI at b;split at b
  · rename_i c; exact absurd c b
  split at b
  · exact absurd (by decide) b
  · rename_i c; simpa using c
 have c := (XV h).2.2.1 x.l (LY g);unfold Jt at d;split at d
 · rename_i e; have := e.2.1; have := e.2.2.1; omega
 · cases d
theorem Acy (p : PgV) (A : Option Addr) (cap : Nat) (ts : List IntsV) (fuel : Int) (w : World) (hok : p.ok w) (hbl : p.body.length ≤ 1000) (hr : Rd w A (Ji ts)) (hot : ∀ x ∈ ts, x.ok w) (hl : ts.length ≤ 1000) :
 Calls Tryz.prog 50 #[.agg p.cells, .slice A ts.length cap, .int .i64 fuel] w fun e w' => BaseR p (ts.map IntsV.l) fuel w w' e := by
 have an := Lv hok;have al := Lv hbl;have Hr := Lv hr;have az := Lv hot;have Hl := Lv hl;obtain ⟨n, aj⟩ : ∃ n, n = ts.length := ⟨_, rfl⟩;have am := Lv aj;rw [← aj];clear hok hbl hr hot hl aj;refine (callsIn_wide (n := 0)).1 ?_;refine callsIn_of_wp_marks Tryz.func50 rfl trivial ?_;simp only [Tryz.ntmps50, Lm, Le, Lu, Nat.reduceAdd, Nat.reduceSub, Lk, Ll, Ly, LH, Lp, Ln];refine wpIn_wide.2 ?_;go_wp2_with (refine Qm _ _ rfl ?_)
 refine Stop.to ?_;refine Qe rfl 25 _ rfl p.cells rfl ?_;intro G Gw Gh Gr Gb;have j := (Below.refl w.heap.size w).trans (Gb.mono Gh);have a7 : w.heap.size ≤ G := Gh;have Hc := Lv (X6 p al.out Gw (an.out.go j));clear Gb Gh;go_wp2_with (refine wpList_load_row rfl 25 _ rfl G rfl 25 p.cells (0, 0) _ Gr Tryz.underlying25 rfl (by kernel_rfl) ?_)
 refine Hc.out.mono ?_;rintro e w1 ⟨rfl, g⟩;replace Gr := Gr.below g Gr.lt;replace j := j.trans (g.mono j.size);clear g Hc;obtain ⟨z, hz⟩ : ∃ z, z = QI p := ⟨_, rfl⟩;rw [← hz];by_cases h0 : z = 0;rotate_left
 · have a6 : (z != 0) = true := by simpa using h0
   have hb : Ze p (ts.map IntsV.l) fuel = z := by unfold Ze; rw [← hz, if_pos h0]
   have HF : Hid (BaseR p (ts.map IntsV.l) fuel w w1 (.returned (.tuple #[.slice none 0 0, .int .i64 z]))) := ⟨_, by rw [hb], by unfold ZF; rw [hb, if_neg h0]; exact World.ownsRow_nil _ _ _ _, j⟩;clear hz h0 hb;go_wp2_with fail
   exact ⟨_, results_tmp2 Tryz.results50 _ _ _, HF.out⟩
 have Hz : Hid (QI p = 0) := hz.symm.trans h0;subst h0;clear hz;have Hc := Lv (Vg p.params fuel A cap ts w1 (Hr.out.go j) (by have := Hl.out; omega));rw [← am.out] at Hc;have c0 := Gr.cellv (i := 0) (v := .int .i64 p.params) rfl;go_wp2_with fail
 refine Hc.out.mono ?_;rintro e w2 ⟨rfl, g⟩;replace Gr := Gr.below g Gr.lt;replace j := j.trans (g.mono j.size);clear g Hc c0;obtain ⟨z, hz⟩ : ∃ z, z = ZR p.params (ts.map IntsV.l) fuel := ⟨_, rfl⟩;rw [← hz];have hb : Ze p (ts.map IntsV.l) fuel = z := by unfold Ze; rw [if_neg (by rw [Hz.out]; simp), ← hz]
 have Hb := Lv hb;clear hz hb;by_cases h0 : z = 0;rotate_left
 · have a6 : (z != 0) = true := by simpa using h0
   have HF : Hid (BaseR p (ts.map IntsV.l) fuel w w2 (.returned (.tuple #[.slice none 0 0, .int .i64 z]))) := ⟨_, by rw [Hb.out], by unfold ZF; rw [Hb.out, if_neg h0]; exact World.ownsRow_nil _ _ _ _, j⟩;clear h0 Hb;go_wp2_with fail
   exact ⟨_, results_tmp2 Tryz.results50 _ _ _, HF.out⟩
 subst h0;go_wp2_with (first | fail | (refine QE _ rfl ?_))
 refine Stop.to ?_;refine Qi rfl 86 rfl _ _ (Aeb _) rfl ?_;intro Q Qw Qh Qr Qb;have Qc := Qb.mono Qh;have a0 : w.heap.size ≤ Q := Li j.size Qh;replace Gr := Gr.below Qc Gr.lt;replace j := j.trans (Qc.mono j.size);clear Qb Qh Qc;go_wp2_with (refine wpList_load_row rfl 25 _ rfl G rfl 25 p.cells (0, 0) _ Gr Tryz.underlying25 rfl (by kernel_rfl) ?_)
 refine (Aad p A n cap fuel Qw).mono ?_;rintro e w3 ⟨bt, bp, bf, rfl, r1, r2, r3, g1, g2, g3, g⟩;have sQ := Qr.lt;replace Qr := Qr.below g Qr.lt;have b3 := j.trans (g.mono j.size);obtain ⟨lim, af⟩ : ∃ lim, lim = w3.heap.size := ⟨_, rfl⟩;rw [am.out] at r1
 have hC : RunsC p A cap ts fuel (fun k => k = Q ∨ lim ≤ k) bt bp bf w3 := RunsC.of (lim := Q) (w0 := w) (fun k hk => by have := Qr.lt; rcases hk with h | h <;> omega) (by omega) an.out Hr.out az.out b3 r1 r2 r3
  (fun h => by have := r1.lt; omega) (fun h => by have := r2.lt; omega) (fun h => by have := r3.lt; omega)
 have ax := Lv (Aac p al.out A cap ts Hl.out (XL Hb.out) fuel (fun k => k = Q ∨ lim ≤ k) bt bp bf w3 hC);have a8 : Q < lim := by have := Qr.lt; omega
 have a5 : w.heap.size ≤ lim := by omega
 have ac := Lv af;have aw : Hid (∃ v, Row w3 Q 86 #[v] ∧ w3.ownsRow lim 52 2 v (([] : List RnX).map RnX.rn).length (JD (([] : List RnX).map RnX.rn)) ∧ ([] : List RnX).map RnX.rn = ((ts.map IntsV.l).take ([] : List RnX).length).map (rnZ p fuel) ∧ Below w.heap.size w w3 ∧ lim ≤ w3.heap.size) := ⟨_, Qr, World.ownsRow_nil _ _ _ _, rfl, b3, by omega⟩;clear hC r1 r2 r3 g1 g2 g3 j g b3 sQ af Qr Gr;go_wp2_with fail
 refine (wpIn_wide (n := 0)).1 ?_
 refine Yz (gf := 83) (lb := #[.pointer (some ⟨bt, 0, none⟩), .pointer (some ⟨bp, 0, none⟩), .pointer (some ⟨bf, 0, none⟩)]) rfl (enters_of Tryz.func83 (by kernel_rfl) rfl) ax.out (fun r h => h.elim)
  (fun h k => h.trans k) (fun V o o' ho hc => ⟨fun i p hx hp => by rw [World.putObj_heap_other (fun e => hx (.inr e))]; exact hp, by simp⟩) (World.grownBy.refl _ _) (fun _ => rfl)
  (fun d V => ∃ v, Row V Q 86 #[v] ∧ V.ownsRow lim 52 2 v (d.map RnX.rn).length (JD (d.map RnX.rn)) ∧ d.map RnX.rn = ((ts.map IntsV.l).take d.length).map (rnZ p fuel) ∧ Below w.heap.size w V ∧ lim ≤ V.heap.size)
  (fun _ _ _ => False) (.inl trivial) ?hI ?hIx aw.out
  (fun d x a' V => ∃ D, a' = { tmps := #[.agg p.cells, .slice A n cap, .int .i64 fuel, .pointer (some ⟨G, 0, none⟩), undef, undef, .slice none 0 0, .int .i64 0, .int .i64 0, .int .i64 0, .pointer (some ⟨Q, 0, none⟩), undef, .pointer (some ⟨D, 0, none⟩), .agg p.cells, .int .i64 0, .int .i64 0, .bool false, undef, .pointer (some ⟨G, 0, none⟩), .int .i64 p.params, .slice A n cap, .int .i64 fuel, .int .i64 0, .int .i64 0, .bool false, undef, .agg p.cells, .slice A n cap, .int .i64 fuel, .func (.func 83) #[] #[.pointer (some ⟨bt, 0, none⟩), .pointer (some ⟨bp, 0, none⟩), .pointer (some ⟨bf, 0, none⟩)], .int .i64 (x.i : Int), .agg x.r.cells, undef, undef, undef, undef, undef, undef], defers := [] } ∧ Row V D 114 x.r.cells ∧ (∃ l, (ts.map IntsV.l)[d.length]? = some l ∧ x.rn = rnZ p fuel l)) ?hAx ?assign ?body ?done ?stop
 case hI =>
  rintro d V V' row ⟨v, t, u, h3, y, h5⟩ hg hr
  have ag : ∀ r, row = some r → w3.heap.size ≤ r ∧ v.ownBlock ≠ some r := fun r e => by
   rcases hr r e with h | ⟨h, o, ho, hc⟩
   · exact h.elim
   · exact ⟨h, Z9 u ho hc⟩
  refine ⟨v, t.abide hg hr, u.kept hg ?_, h3, y.grown hg y.size (fun k e => by have := (ag k e).1; have := ac.out; omega), Li h5 hg.size⟩;cases row with
  | none => cases v.ownBlock <;> simp
  | some r => exact .inr (ag r rfl).2
 case hIx => exact fun _ _ _ _ _ h _ _ => h
 case hAx =>
  rintro d x a' _ V V' row ⟨D, t, u, h3⟩ hg hr;exact ⟨D, t, u.abide hg hr, h3⟩
 case stop => exact fun D c d W _ _ h _ => h.elim
 case assign =>
  rintro l3 d x V K hI hP hK;have HK := Lv hK;have HI := Lv hI;have HP := Lv hP.rn;clear hK hI hP;unfold RnX.enc;rw [show x.r.val = .agg x.r.cells from rfl];gi_wp2_with (refine KZ _ _ _ rfl ?_);refine Stop.to ?_;obtain ⟨D, hD⟩ : ∃ D, D = V.heap.size := ⟨_, rfl⟩;obtain ⟨V1, s⟩ : ∃ V1, V1 = V.alloc (.cells #[.int .i64 0, .int .i64 0, .int .i64 0, .slice none 0 0] 114) := ⟨_, rfl⟩;have rD : Row V1 D 114 #[.int .i64 0, .int .i64 0, .int .i64 0, .slice none 0 0] := by rw [s, hD]; exact Row.new _ _ _
  have j : Below V.heap.size V V1 := by rw [s]; exact (Below.refl _ _).alloc (Nat.le_refl _) _
  rw [← s, ← hD];have ap : V.heap.size ≤ D := LM hD.symm;clear s hD;refine Q5 rfl 114 _ _ rfl D x.r.cells rfl rfl 114 _ rD (by kernel_rfl) rfl (by simp [RunV.cells, Value.oneCell']) ?_;have ak := rD.setRow x.r.cells;have o2 := Zv V1 D x.r.cells;have g : Below V.heap.size V (V1.setRow D x.r.cells) := Ql j o2 ap;generalize V1.setRow D x.r.cells = V2 at ak o2 g ⊢;obtain ⟨v, t, u, h3, y, h5⟩ := HI.out;have a4 := g.size;have HF := Lv (And.intro ((KpX.of_below g).keeps (b := w3.heap.size) (X := fun _ => False) (fun _ h => h.elim)) (And.intro (KpX.of_below (X := fun i => (i = Q ∨ lim ≤ i) ∨ i = w3.heap.size + 1) g) (And.intro (show ∃ v, Row V2 Q 86 #[v] ∧ V2.ownsRow lim 52 2 v (d.map RnX.rn).length (JD (d.map RnX.rn)) ∧ d.map RnX.rn = ((ts.map IntsV.l).take d.length).map (rnZ p fuel) ∧ Below w.heap.size w V2 ∧ lim ≤ V2.heap.size from ⟨v, t.below g t.lt, Qy u g, h3, y.trans (g.mono (by have := y.size; omega)), by omega⟩) ak)));clear rD ak j o2 g ap t u h3 y h5 a4 HI;gi_wp2_with fail
  exact HK.out _ _ HF.out.1 HF.out.2.1 HF.out.2.2.1 ⟨D, rfl, HF.out.2.2.2, HP.out⟩
 case body =>
  rintro l3 d x a' V a2 _ ⟨v, t, u, h3, y, h5⟩ ⟨D, rfl, a3, l, hl, hx⟩ aq;have a9 : d.length ≤ 1000 := by have := Hl.out; omega
  have ay := Lv hl;have Hx := Lv hx;have H3 := Lv h3;clear hl hx h3 aq a2;have c1 := t.cellv (i := 0) (v := v) rfl;obtain ⟨M, hM⟩ : ∃ M, M = V.heap.size := ⟨_, rfl⟩;obtain ⟨V1, s⟩ : ∃ V1, V1 = V.alloc (.cells #[.int .i64 x.r.kind, .int .i64 x.r.value] 52) := ⟨_, rfl⟩;have Mr : Row V1 M 52 #[.int .i64 x.r.kind, .int .i64 x.r.value] := by rw [s, hM]; exact Row.new _ _ _
  have Mb : Below V.heap.size V V1 := by rw [s]; exact (Below.refl _ _).alloc (Nat.le_refl _) _
  have q := Qy u Mb;have r2 := t.below Mb t.lt;have ao : lim ≤ V1.heap.size := Li h5 Mb.size;have g := y.trans (Mb.mono y.size);obtain ⟨v3, V3, ah, aa, ab, a1⟩ := Zp (P := Tryz.prog) 86 52 (.agg #[.int .i64 0, .int .i64 0]) 2 16 Tryz.underlying86 Aji rfl (by decide) (by decide) q ao (Jq (cs := x.rn.cells.toList) (by simpa [RnX.rn, Rn.cells, Xn] using Mr)) (m := 1) (cap := 1) rfl (Aku _) (by simp) (by simp; omega);have r3 := r2.grown ab (QD q r2 (by decide));have o4 := Q6 V3 Q 0 v3;have ai := QB aa o4 (QD aa r3 (by decide));have r4 := r3.set 0 v3;have b3 := QK g q ab (by omega) a5;have b4 := Ql b3 o4 a0;have kf := ((KpX.of_below Mb).keeps (b := w3.heap.size) (X := fun _ => False) (fun _ h => h.elim)).trans ((KeepsFrom.of_own q ab).trans (KeepsFrom.of_only r3 o4));have kp : KpX (fun i => (i = Q ∨ lim ≤ i) ∨ i = w3.heap.size + 1) V (V3.setCell ⟨Q, 0, none⟩ v3) := (KpX.of_below Mb).trans ((Ajo q ab (fun k hk => .inl (.inr hk))).trans (KpX.only o4 (.inl (.inl rfl))));have ar : lim ≤ (V3.setCell ⟨Q, 0, none⟩ v3).heap.size := by have e1 := ab.size; have e2 := o4.size; omega
  have au := AjT H3.out ay.out Hx.out
  have HF : Hid (KeepsFrom w3.heap.size V (V3.setCell ⟨Q, 0, none⟩ v3) ∧ KpX (fun i => (i = Q ∨ lim ≤ i) ∨ i = w3.heap.size + 1) V (V3.setCell ⟨Q, 0, none⟩ v3) ∧ ∃ v, Row (V3.setCell ⟨Q, 0, none⟩ v3) Q 86 #[v] ∧ (V3.setCell ⟨Q, 0, none⟩ v3).ownsRow lim 52 2 v ((d ++ [x]).map RnX.rn).length (JD ((d ++ [x]).map RnX.rn)) ∧ (d ++ [x]).map RnX.rn = ((ts.map IntsV.l).take (d ++ [x]).length).map (rnZ p fuel) ∧ Below w.heap.size w (V3.setCell ⟨Q, 0, none⟩ v3) ∧ lim ≤ (V3.setCell ⟨Q, 0, none⟩ v3).heap.size) :=
   ⟨kf, kp, v3, r4, by rw [LT, List.map_singleton, AeW, Lf]; exact ai, au, b4, ar⟩
  obtain ⟨A3, m3, d3, rfl⟩ := Zy aa;have c3 := r3.cellv (i := 0) (v := v) rfl;have f3 := r3.free 0;have ae := Lv ah;clear t u y h5 Mr Mb q r2 ao g ah aa ab a1 r3 o4 ai r4 b3 b4 kf kp ar au;gi_wp2_with (first | (refine Ja rfl 52 _ rfl ⟨D, 0, none⟩ rfl [.int .i64 x.r.kind, .int .i64 x.r.value] _ (KW a3) Tryz.underlying52 rfl (by kernel_rfl) ?_) | (refine Acx _ _ _ _ rfl ?_))
  rw [← s, ← hM];clear s hM;refine Stop.to ?_;refine UV rfl (fun c h => by cases h) rfl _ (QA rfl ae.out) ?_;clear ae;gi_wp2_with fail
  exact HF.out
 case done =>
  rintro D ys V hD av ⟨v, t, u, h3, y, h5⟩ hK;have hr : ∀ r, some D = some r → False ∨ (True ∧ ∃ o : Obj, V.heap[r]? = some o ∧ o.isCells = false) := fun r e => by cases e; exact .inr ⟨trivial, _, hK, rfl⟩
  have hg := grownBy_putObj' V D (.deferred none);have ad := u.kept hg (.inr (Z9 u hK rfl));obtain ⟨A9, m9, c9, rfl⟩ := Zy ad;have hc := t.cellv (i := 0) (v := .slice A9 m9 c9) rfl
  have hbl : ZF p (ts.map IntsV.l) fuel = ys.map RnX.rn := by
   unfold ZF;rw [Hb.out, if_pos rfl, h3, av, LA (by rw [Lz]; exact Nat.le_refl _)]
  have HF : Hid (BaseR p (ts.map IntsV.l) fuel w (V.putObj D (.deferred none)) (.returned (.tuple #[.slice A9 m9 c9, .int .i64 0]))) := ⟨_, by rw [Hb.out], by rw [hbl]; exact QQ ad (by have := ac.out; omega), y.grown hg y.size (fun k e => by cases e; have := ac.out; omega)⟩;have HK := Lv hK;clear hK hr hg t u h3 y h5 av ad hbl;gi_wp2;go_wp2_with fail
  refine ⟨by simp, .inl ⟨_, _, rfl, run_takeDeferred HK.out, ?_⟩⟩;exact ⟨_, results_tmp2 Tryz.results50 _ _ _, HF.out⟩
end Go.Proofs.YtkoikjnlpifbjaaGreat
