/- Lemmas for VerdictJustP. -/
import Derived.Test.YtdcmppdhdcjpfaaGreatZy1
import Derived.Test.YtdcmppdhdcjpfaaGreatZy31
set_option linter.unusedVariables false
set_option linter.unusedSimpArgs false
set_option maxRecDepth 100000
set_option maxHeartbeats 16000000
namespace Go.Proofs.YtdcmppdhdcjpfaaGreat
open Go.RowKit Go.Deep
attribute [local go_sem] Oper.semAt_some
theorem E1 (p : PgV) (hbl : p.body.length ≤ 1000) (A : Option Addr) (cap : Nat) (ts : List IntsV) (hl : ts.length ≤ 1000) (hn : ∀ x ∈ ts, x.l.length ≤ 1000) (fuel : Int) (X : Nat → Prop) (bt bp bf : Nat) (w : World) (hC : RunsC p A cap ts fuel X bt bp bf w) :
 VL Tryz.prog 136 #[.pointer (some ⟨bt, 0, none⟩), .pointer (some ⟨bp, 0, none⟩), .pointer (some ⟨bf, 0, none⟩)] RnX.enc (fun _ => False) (fun lb => KpX (fun i => X i ∨ i = lb)) (RnP p fuel (ts.map IntsV.l)) (fun xs => xs.length = ts.length) (fun _ => True) ts.length True w := by
 intro lb J Jx W ar j _ hJ a9 hY h0;have al : Below w.heap.size w W := ⟨j.os, j.tape, j.output, j.size, fun k hk => j.block k hk (by simp)⟩;have s := hC.add al ar.1;clear hC ar al j w;have aa : ∀ d x W1, J d W1 → RnP p fuel (ts.map IntsV.l) d x W1 → d.length < ts.length → YieldAt Fence.wide 0 Tryz.prog lb #[.int .i64 (x.i : Int), x.r.val] W1 fun e W' => (e = .returned (.bool true) ∧ J (d ++ [x]) W' ∧ KpX (fun i => X i ∨ i = lb) W1 W') ∨ (e = .returned (.bool false) ∧ Jx (d ++ [x]) W' ∧ KpX (fun i => X i ∨ i = lb) W1 W') := hY;clear hY;generalize (fun i => X i ∨ i = lb) = X1 at s aa;obtain ⟨N, hN⟩ : ∃ N, N = ts.length := ⟨_, rfl⟩;have ba : (N : Int) ≤ 1000 := by omega
 have HN := Lh hN;have h := Lh s;have HJ := Lh hJ;have HY := Lh aa;have a1 := Lh hbl;have Hn := Lh hn;have m := s.r1.cellv (i := 0) (v := .slice A ts.length cap) rfl;rw [← hN] at m;clear hN s hJ aa hbl hn hl;refine callsIn_of_wp Tryz.func136 rfl trivial ?_ rfl;simp only [Tryz.ntmps136, Lj, Ld, Lp, Nat.reduceAdd, Nat.reduceSub, Ll, Lm, Lr, L2, Lo, Lk];gi_wp2_with fail
 gi_loopw [11] (fun i wr => ∃ (k : Nat) (d : List RnX), i = .int .i64 (k : Int) ∧ k ≤ N ∧ Hid (d.length = k) ∧ Hid (RunsC p A cap ts fuel X1 bt bp bf wr) ∧ J d wr) (fun i _ => N - (intOf i).toNat)
 case atStart => exact ⟨0, [], by simp, Nat.zero_le _, Lh rfl, h, h0⟩
 case round =>
  clear h0 m h;obtain ⟨k, d, rfl, bc, g, h, hj⟩ := hrel;by_cases a6 : k < N;rotate_left
  · obtain rfl : k = N := by omega
    gi_wp2_with fail
    go_end0
    exact ⟨⟨_, rfl⟩, .inl ⟨_, g.out.trans HN.out, hj⟩⟩
  obtain ⟨x, hx⟩ : ∃ x, ts[k]? = some x := ⟨_, Lb (by have := HN.out; omega)⟩;obtain ⟨ad, a3, am⟩ := JQ h.out.rt hx;subst a3;have o := Lg hx;have Hx := Lh hx;have an : wr.cell? (ad.add k) = some (.slice x.addr x.l.length x.cap) := am;have bb : (k : Int) < (N : Int) := by omega
  have y := Lh (AkE p x.addr x.cap x.l fuel wr a1.out (Hn.out x o) h.out.ok (h.out.ot x o).reads (h.out.ot x o).all);have aj := Lh (fun (W : World) (u : Option Addr) (m : Nat) h1 h2 h3 h4 => AkL (p := p) (args := x.l) (fuel := fuel) (w := wr) (W := W) (A := u) (c := m) h.out.ok (h.out.ot x o).all h1 h2 h3 h4);have r2 := h.out.r2;have c3 := h.out.r3.cellv (i := 0) (v := .int .i64 fuel) rfl;clear hx am o;gi_wp2_with (refine Q4 rfl 25 _ rfl bp rfl 25 p.cells (0, 0) _ r2 Tryz.underlying25 rfl (by kernel_rfl) ?_);refine ⟨trivial, rfl, (callsIn_wide.2 y.out).mono ?_⟩;rintro e w1 ⟨u, m, rfl, ax, au, av, aw, b1⟩;have ab := aj.out w1 u m au av aw ax;have a4 := Ajo p x.l fuel;have n : ((Q8 p x.l fuel).rv u m).evs.length ≤ 10000 := AfD p x.l fuel;obtain ⟨r, hr⟩ : ∃ r, r = (Q8 p x.l fuel).rv u m := ⟨_, rfl⟩;have ay : ∃ l, (ts.map IntsV.l)[k]? = some l ∧ ∃ A c, r = (Q8 p l fuel).rv A c := ⟨x.l, by rw [L8, Hx.out]; rfl, u, m, hr⟩;have a7 : Value.agg ((Q8 p x.l fuel).rv u m).cells = .agg r.cells := by rw [hr]
  rw [← hr] at ab n;rw [show (#[Value.int .i64 ((Q8 p x.l fuel).out.getD (0, 0)).1, .int .i64 ((Q8 p x.l fuel).out.getD (0, 0)).2, .int .i64 ((Q8 p x.l fuel).steps : Int), .slice u (Q8 p x.l fuel).evs.length m] : Array Value) = r.cells from by rw [hr]; rfl];have af := Lh (h.out.kx (KpX.of_below b1));replace hj := QD HJ.out hj b1;obtain ⟨cz, ao⟩ : ∃ c, c = Q2 p x.l.length fuel := ⟨_, rfl⟩;rw [← ao];have ah := Lh ab;have ai := Lh ay;clear ay ab a4 hr a7 ax au av aw b1 ao h y aj r2 c3 an;gi_wp2_with (refine K0 _ _ _ rfl ?_);refine Stop.to ?_;obtain ⟨D, hD⟩ : ∃ D, D = w1.heap.size := ⟨_, rfl⟩;obtain ⟨w3, t⟩ : ∃ w3, w3 = w1.alloc (.cells #[.int .i64 0, .int .i64 0, .int .i64 0, .slice none 0 0] 40) := ⟨_, rfl⟩;have ac : Row w3 D 40 #[.int .i64 0, .int .i64 0, .int .i64 0, .slice none 0 0] := by rw [t, hD]; exact Row.new _ _ _
  have b3 : Below w1.heap.size w1 w3 := by rw [t]; exact (Below.refl _ _).alloc (Nat.le_refl _) _
  rw [← t, ← hD];have ak : w1.heap.size ≤ D := LA hD.symm;clear t hD;refine QZ rfl 40 _ _ rfl D r.cells rfl rfl 40 _ ac (by kernel_rfl) rfl (by simp [RunV.cells, Value.oneCell']) ?_;have ae := ac.setRow r.cells;have b4 : Below w1.heap.size w1 (w3.setRow D r.cells) := Qo b3 (Zu _ _ _) ak;generalize w3.setRow D r.cells = w4 at ae b4 ⊢;have hP : RnP p fuel (ts.map IntsV.l) d ⟨k, r⟩ w4 := ⟨g.out.symm, by rw [g.out]; exact ai.out, St.go (S := fun W => r.ok W) ah.out b4, n⟩;have z : d.length < ts.length := by rw [g.out, ← HN.out]; exact a6
  have ap := QD HJ.out hj b4;obtain ⟨fn, az, q, body, hy, hR⟩ := HY.out _ ⟨k, r⟩ _ ap hP z;have HR := Lh hR;have ag := Lh (af.out.kx (KpX.of_below b4));have a2 : Hid ((d ++ [(⟨k, r⟩ : RnX)]).length = k + 1) := by show _ = _; rw [Lf, g.out]; rfl
  have a8 : (Instr.yield lb #[.int .i64 (k : Int), .agg r.cells]).run Tryz.prog w4 = .ok (.round lb fn az q body) w4 := hy;clear hP z ap hj hR b4 ac b3 ak g ai ah n af hy;gi_wp2_with (refine Q4 rfl 40 _ rfl D rfl 40 r.cells (0, 0) _ ae Tryz.underlying40 rfl (by kernel_rfl) ?_);refine ⟨rfl, HR.out.mono ?_⟩;clear a8 HR ae;rintro e W' (⟨rfl, hj, aq⟩ | ⟨rfl, a5, -⟩);rotate_left
  · gi_wp2_with fail
    refine bodyPost_ret (results_none rfl _ _ _) rfl ?_;exact ⟨⟨_, rfl⟩, .inr ⟨_, trivial, a5⟩⟩
  have a0 := Lh (ag.out.kx aq);clear ag aq;gi_wp2_with fail
  go_roundw
  case rel => exact ⟨k + 1, _, by go_num, by omega, a2, a0, hj⟩
  case measure => simp [intOf]; omega
end Go.Proofs.YtdcmppdhdcjpfaaGreat
namespace Go.Proofs.YtdcmppdhdcjpfaaGreat
open Go.RowKit Go.Deep
attribute [local go_sem] Oper.semAt_some
noncomputable def Yg (p : PgV) (ts : List (List Int)) (fuel : Int) : List Rn := if KD p ts fuel = 0 then ts.map (rnZ p fuel) else []
structure BaseR (p : PgV) (ts : List (List Int)) (fuel : Int) (w w' : World) (e : Ending) : Prop where
 ex : ∃ v, e = .returned (.tuple #[v, .int .i64 (KD p ts fuel)]) ∧ w'.ownsRow w.heap.size 37 2 v (Yg p ts fuel).length (JW (Yg p ts fuel)) ∧ Below w.heap.size w w'
theorem AiS : (Tryz.prog.info? 37).map (fun i => (i.zero, i.size, i.bytes)) = some (some (.agg #[.int .i64 0, .int .i64 0]), 2, 16) := by kernel_rfl
theorem AdR (w : World) : (zeroValue 48).run Tryz.prog w = .ok (.slice none 0 0) w := by kernel_rfl
theorem Aj8 (r : Rn) : ∀ u ∈ r.cells.toList, u.oneCell' = true := by
 intro u c;simp only [Rn.cells, ZI, Lt, L0, or_false] at c;rcases c with rfl | rfl <;> rfl
theorem Ajw {ts : List (List Int)} {f : List Int → Rn} {pre : List RnX} {x : RnX} {l : List Int} (h : pre.map RnX.rn = (ts.take pre.length).map f) (hl : ts[pre.length]? = some l) (hx : x.rn = f l) : (pre ++ [x]).map RnX.rn = (ts.take (pre ++ [x]).length).map f := by
 rw [Nk, h, Lf, LX, LF, hl];simp [hx]
theorem AiY {X : Nat → Prop} {A B : World} {lim n size : Nat} {e : TypeId} {v : Value} {xs : List Value} (h : A.ownsRow lim e size v n xs) (hg : A.grownBy B v.ownBlock) (hX : ∀ k, lim ≤ k → X k) : KpX X A B :=
 ⟨fun k o hx ho => (hg.block k (Ln.1 ho).1 (fun e => hx (hX _ (by
  rcases h.2 with ⟨rfl, _⟩ | ⟨g, _, _, rfl, h1, _⟩
  · simp [Value.ownBlock] at e
  · simp [Value.ownBlock] at e; omega)))).trans ho, hg.size⟩
theorem AaC {p : PgV} {ts : List IntsV} {fuel : Int} (h : KD p (ts.map IntsV.l) fuel = 0) : ∀ x ∈ ts, x.l.length ≤ 1000 := by
 intro x i;unfold KD at h;split at h
 · rename_i c; exact absurd h c
 rename_i c
 have e : Ju p.params p.V = 0 := by
  unfold Zg at c;split at c
  · rename_i d; exact absurd d c
  split at c
  · exact absurd (by decide) c
  · rename_i d; simpa using d
 have d := (AgD h).2.2.1 x.l (List.mem_map_of_mem i);unfold Ju at e;split at e
 · rename_i g; have := g.2.1; have := g.2.2.1; omega
 · cases e
theorem Acj (p : PgV) (A : Option Addr) (cap : Nat) (ts : List IntsV) (fuel : Int) (w : World) (hok : p.ok w) (hbl : p.body.length ≤ 1000) (hr : Rd w A (Xf ts)) (hot : ∀ x ∈ ts, x.ok w) (hl : ts.length ≤ 1000) :
 Calls Tryz.prog 25 #[.agg p.cells, .slice A ts.length cap, .int .i64 fuel] w fun e w' => BaseR p (ts.map IntsV.l) fuel w w' e := by
 have an := Lh hok;have al := Lh hbl;have Hr := Lh hr;have az := Lh hot;have Hl := Lh hl;obtain ⟨n, aj⟩ : ∃ n, n = ts.length := ⟨_, rfl⟩;have am := Lh aj;rw [← aj];clear hok hbl hr hot hl aj;refine (callsIn_wide (n := 0)).1 ?_;refine callsIn_of_wp_marks Tryz.func25 rfl trivial ?_;simp only [Tryz.ntmps25, Lj, Ld, Lp, Nat.reduceAdd, Nat.reduceSub, Ll, Lm, Lr, L2, Lo, Lk];refine wpIn_wide.2 ?_;go_wp2_with (refine Qn _ _ rfl ?_)
 refine Stop.to ?_;refine Qe rfl 25 _ rfl p.cells rfl ?_;intro G Gw Gh Gr Gb;have j := (Below.refl w.heap.size w).trans (Gb.mono Gh);have a7 : w.heap.size ≤ G := Gh;have Hc := Lh (Es p al.out Gw (an.out.go j));clear Gb Gh;go_wp2_with (refine wpList_load_row rfl 25 _ rfl G rfl 25 p.cells (0, 0) _ Gr Tryz.underlying25 rfl (by kernel_rfl) ?_)
 refine Hc.out.mono ?_;rintro e w1 ⟨rfl, g⟩;replace Gr := Gr.below g Gr.lt;replace j := j.trans (g.mono j.size);clear g Hc;obtain ⟨z, hz⟩ : ∃ z, z = Zg p := ⟨_, rfl⟩;rw [← hz];by_cases h0 : z = 0;rotate_left
 · have a6 : (z != 0) = true := by simpa using h0
   have hb : KD p (ts.map IntsV.l) fuel = z := by unfold KD; rw [← hz, if_pos h0]
   have HF : Hid (BaseR p (ts.map IntsV.l) fuel w w1 (.returned (.tuple #[.slice none 0 0, .int .i64 z]))) := ⟨_, by rw [hb], by unfold Yg; rw [hb, if_neg h0]; exact World.ownsRow_nil _ _ _ _, j⟩;clear hz h0 hb;go_wp2_with fail
   exact ⟨_, results_tmp2 Tryz.results25 _ _ _, HF.out⟩
 have Hz : Hid (Zg p = 0) := hz.symm.trans h0;subst h0;clear hz;have Hc := Lh (AgF p.params fuel A cap ts w1 (Hr.out.go j) (by have := Hl.out; omega));rw [← am.out] at Hc;have c0 := Gr.cellv (i := 0) (v := .int .i64 p.params) rfl;go_wp2_with fail
 refine Hc.out.mono ?_;rintro e w2 ⟨rfl, g⟩;replace Gr := Gr.below g Gr.lt;replace j := j.trans (g.mono j.size);clear g Hc c0;obtain ⟨z, hz⟩ : ∃ z, z = J8 p.params (ts.map IntsV.l) fuel := ⟨_, rfl⟩;rw [← hz];have hb : KD p (ts.map IntsV.l) fuel = z := by unfold KD; rw [if_neg (by rw [Hz.out]; simp), ← hz]
 have Hb := Lh hb;clear hz hb;by_cases h0 : z = 0;rotate_left
 · have a6 : (z != 0) = true := by simpa using h0
   have HF : Hid (BaseR p (ts.map IntsV.l) fuel w w2 (.returned (.tuple #[.slice none 0 0, .int .i64 z]))) := ⟨_, by rw [Hb.out], by unfold Yg; rw [Hb.out, if_neg h0]; exact World.ownsRow_nil _ _ _ _, j⟩;clear h0 Hb;go_wp2_with fail
   exact ⟨_, results_tmp2 Tryz.results25 _ _ _, HF.out⟩
 subst h0;go_wp2_with (first | fail | (refine QH _ rfl ?_))
 refine Stop.to ?_;refine Qj rfl 48 rfl _ _ (AdR _) rfl ?_;intro Q Qw Qh Qr Qb;have Qc := Qb.mono Qh;have a0 : w.heap.size ≤ Q := Le j.size Qh;replace Gr := Gr.below Qc Gr.lt;replace j := j.trans (Qc.mono j.size);clear Qb Qh Qc;go_wp2_with (refine wpList_load_row rfl 25 _ rfl G rfl 25 p.cells (0, 0) _ Gr Tryz.underlying25 rfl (by kernel_rfl) ?_)
 refine (E3 p A n cap fuel Qw).mono ?_;rintro e w3 ⟨bt, bp, bf, rfl, r1, r2, r3, g1, g2, g3, g⟩;have sQ := Qr.lt;replace Qr := Qr.below g Qr.lt;have b3 := j.trans (g.mono j.size);obtain ⟨lim, af⟩ : ∃ lim, lim = w3.heap.size := ⟨_, rfl⟩;rw [am.out] at r1
 have hC : RunsC p A cap ts fuel (fun k => k = Q ∨ lim ≤ k) bt bp bf w3 := RunsC.of (lim := Q) (w0 := w) (fun k hk => by have := Qr.lt; rcases hk with h | h <;> omega) (by omega) an.out Hr.out az.out b3 r1 r2 r3
  (fun h => by have := r1.lt; omega) (fun h => by have := r2.lt; omega) (fun h => by have := r3.lt; omega)
 have ax := Lh (E1 p al.out A cap ts Hl.out (AaC Hb.out) fuel (fun k => k = Q ∨ lim ≤ k) bt bp bf w3 hC);have a8 : Q < lim := by have := Qr.lt; omega
 have a5 : w.heap.size ≤ lim := by omega
 have ac := Lh af;have aw : Hid (∃ v, Row w3 Q 48 #[v] ∧ w3.ownsRow lim 37 2 v (([] : List RnX).map RnX.rn).length (JW (([] : List RnX).map RnX.rn)) ∧ ([] : List RnX).map RnX.rn = ((ts.map IntsV.l).take ([] : List RnX).length).map (rnZ p fuel) ∧ Below w.heap.size w w3 ∧ lim ≤ w3.heap.size) := ⟨_, Qr, World.ownsRow_nil _ _ _ _, rfl, b3, by omega⟩;clear hC r1 r2 r3 g1 g2 g3 j g b3 sQ af Qr Gr;go_wp2_with fail
 refine (wpIn_wide (n := 0)).1 ?_
 refine Ys (gf := 136) (lb := #[.pointer (some ⟨bt, 0, none⟩), .pointer (some ⟨bp, 0, none⟩), .pointer (some ⟨bf, 0, none⟩)]) rfl (enters_of Tryz.func136 (by kernel_rfl) rfl) ax.out (fun r h => h.elim)
  (fun h k => h.trans k) (fun V o o' ho hc => ⟨fun i p hx hp => by rw [World.putObj_heap_other (fun e => hx (.inr e))]; exact hp, by simp⟩) (World.grownBy.refl _ _) (fun _ => rfl)
  (fun d V => ∃ v, Row V Q 48 #[v] ∧ V.ownsRow lim 37 2 v (d.map RnX.rn).length (JW (d.map RnX.rn)) ∧ d.map RnX.rn = ((ts.map IntsV.l).take d.length).map (rnZ p fuel) ∧ Below w.heap.size w V ∧ lim ≤ V.heap.size)
  (fun _ _ _ => False) (.inl trivial) ?hI ?hIx aw.out
  (fun d x a' V => ∃ D, a' = { tmps := #[.agg p.cells, .slice A n cap, .int .i64 fuel, .pointer (some ⟨G, 0, none⟩), undef, undef, .slice none 0 0, .int .i64 0, .int .i64 0, .int .i64 0, .pointer (some ⟨Q, 0, none⟩), undef, .pointer (some ⟨D, 0, none⟩), .agg p.cells, .int .i64 0, .int .i64 0, .bool false, undef, .pointer (some ⟨G, 0, none⟩), .int .i64 p.params, .slice A n cap, .int .i64 fuel, .int .i64 0, .int .i64 0, .bool false, undef, .agg p.cells, .slice A n cap, .int .i64 fuel, .func (.func 136) #[] #[.pointer (some ⟨bt, 0, none⟩), .pointer (some ⟨bp, 0, none⟩), .pointer (some ⟨bf, 0, none⟩)], .int .i64 (x.i : Int), .agg x.r.cells, undef, undef, undef, undef, undef, undef], defers := [] } ∧ Row V D 40 x.r.cells ∧ (∃ l, (ts.map IntsV.l)[d.length]? = some l ∧ x.rn = rnZ p fuel l)) ?hAx ?assign ?body ?done ?stop
 case hI =>
  rintro d V V' row ⟨v, t, u, h3, y, h5⟩ hg hr
  have ag : ∀ r, row = some r → w3.heap.size ≤ r ∧ v.ownBlock ≠ some r := fun r e => by
   rcases hr r e with h | ⟨h, o, ho, hc⟩
   · exact h.elim
   · exact ⟨h, Z1 u ho hc⟩
  refine ⟨v, t.abide hg hr, u.kept hg ?_, h3, y.grown hg y.size (fun k e => by have := (ag k e).1; have := ac.out; omega), Le h5 hg.size⟩;cases row with
  | none => cases v.ownBlock <;> simp
  | some r => exact .inr (ag r rfl).2
 case hIx => exact fun _ _ _ _ _ h _ _ => h
 case hAx =>
  rintro d x a' _ V V' row ⟨D, t, u, h3⟩ hg hr;exact ⟨D, t, u.abide hg hr, h3⟩
 case stop => exact fun D c d W _ _ h _ => h.elim
 case assign =>
  rintro l3 d x V K hI hP hK;have HK := Lh hK;have HI := Lh hI;have HP := Lh hP.rn;clear hK hI hP;unfold RnX.enc;rw [show x.r.val = .agg x.r.cells from rfl];gi_wp2_with (refine K0 _ _ _ rfl ?_);refine Stop.to ?_;obtain ⟨D, hD⟩ : ∃ D, D = V.heap.size := ⟨_, rfl⟩;obtain ⟨V1, s⟩ : ∃ V1, V1 = V.alloc (.cells #[.int .i64 0, .int .i64 0, .int .i64 0, .slice none 0 0] 40) := ⟨_, rfl⟩;have rD : Row V1 D 40 #[.int .i64 0, .int .i64 0, .int .i64 0, .slice none 0 0] := by rw [s, hD]; exact Row.new _ _ _
  have j : Below V.heap.size V V1 := by rw [s]; exact (Below.refl _ _).alloc (Nat.le_refl _) _
  rw [← s, ← hD];have ap : V.heap.size ≤ D := LA hD.symm;clear s hD;refine QZ rfl 40 _ _ rfl D x.r.cells rfl rfl 40 _ rD (by kernel_rfl) rfl (by simp [RunV.cells, Value.oneCell']) ?_;have ak := rD.setRow x.r.cells;have o2 := Zu V1 D x.r.cells;have g : Below V.heap.size V (V1.setRow D x.r.cells) := Qo j o2 ap;generalize V1.setRow D x.r.cells = V2 at ak o2 g ⊢;obtain ⟨v, t, u, h3, y, h5⟩ := HI.out;have a4 := g.size;have HF := Lh (And.intro ((KpX.of_below g).keeps (b := w3.heap.size) (X := fun _ => False) (fun _ h => h.elim)) (And.intro (KpX.of_below (X := fun i => (i = Q ∨ lim ≤ i) ∨ i = w3.heap.size + 1) g) (And.intro (show ∃ v, Row V2 Q 48 #[v] ∧ V2.ownsRow lim 37 2 v (d.map RnX.rn).length (JW (d.map RnX.rn)) ∧ d.map RnX.rn = ((ts.map IntsV.l).take d.length).map (rnZ p fuel) ∧ Below w.heap.size w V2 ∧ lim ≤ V2.heap.size from ⟨v, t.below g t.lt, QB u g, h3, y.trans (g.mono (by have := y.size; omega)), by omega⟩) ak)));clear rD ak j o2 g ap t u h3 y h5 a4 HI;gi_wp2_with fail
  exact HK.out _ _ HF.out.1 HF.out.2.1 HF.out.2.2.1 ⟨D, rfl, HF.out.2.2.2, HP.out⟩
 case body =>
  rintro l3 d x a' V a2 _ ⟨v, t, u, h3, y, h5⟩ ⟨D, rfl, a3, l, hl, hx⟩ aq;have a9 : d.length ≤ 1000 := by have := Hl.out; omega
  have ay := Lh hl;have Hx := Lh hx;have H3 := Lh h3;clear hl hx h3 aq a2;have c1 := t.cellv (i := 0) (v := v) rfl;obtain ⟨M, hM⟩ : ∃ M, M = V.heap.size := ⟨_, rfl⟩;obtain ⟨V1, s⟩ : ∃ V1, V1 = V.alloc (.cells #[.int .i64 x.r.kind, .int .i64 x.r.value] 37) := ⟨_, rfl⟩;have Mr : Row V1 M 37 #[.int .i64 x.r.kind, .int .i64 x.r.value] := by rw [s, hM]; exact Row.new _ _ _
  have Mb : Below V.heap.size V V1 := by rw [s]; exact (Below.refl _ _).alloc (Nat.le_refl _) _
  have q := QB u Mb;have r2 := t.below Mb t.lt;have ao : lim ≤ V1.heap.size := Le h5 Mb.size;have g := y.trans (Mb.mono y.size);obtain ⟨v3, V3, ah, aa, ab, a1⟩ := ZZ (P := Tryz.prog) 48 37 (.agg #[.int .i64 0, .int .i64 0]) 2 16 Tryz.underlying48 AiS rfl (by decide) (by decide) q ao (Kz (cs := x.rn.cells.toList) (by simpa [RnX.rn, Rn.cells, ZI] using Mr)) (m := 1) (cap := 1) rfl (Aj8 _) (by simp) (by simp; omega);have r3 := r2.grown ab (Qz q r2 (by decide));have o4 := Zh V3 Q 0 v3;have ai := Qu aa o4 (Qz aa r3 (by decide));have r4 := r3.set 0 v3;have b3 := QV g q ab (by omega) a5;have b4 := Qo b3 o4 a0;have kf := ((KpX.of_below Mb).keeps (b := w3.heap.size) (X := fun _ => False) (fun _ h => h.elim)).trans ((KeepsFrom.of_own q ab).trans (KeepsFrom.of_only r3 o4));have kp : KpX (fun i => (i = Q ∨ lim ≤ i) ∨ i = w3.heap.size + 1) V (V3.setCell ⟨Q, 0, none⟩ v3) := (KpX.of_below Mb).trans ((AiY q ab (fun k hk => .inl (.inr hk))).trans (KpX.only o4 (.inl (.inl rfl))));have ar : lim ≤ (V3.setCell ⟨Q, 0, none⟩ v3).heap.size := by have e1 := ab.size; have e2 := o4.size; omega
  have au := Ajw H3.out ay.out Hx.out
  have HF : Hid (KeepsFrom w3.heap.size V (V3.setCell ⟨Q, 0, none⟩ v3) ∧ KpX (fun i => (i = Q ∨ lim ≤ i) ∨ i = w3.heap.size + 1) V (V3.setCell ⟨Q, 0, none⟩ v3) ∧ ∃ v, Row (V3.setCell ⟨Q, 0, none⟩ v3) Q 48 #[v] ∧ (V3.setCell ⟨Q, 0, none⟩ v3).ownsRow lim 37 2 v ((d ++ [x]).map RnX.rn).length (JW ((d ++ [x]).map RnX.rn)) ∧ (d ++ [x]).map RnX.rn = ((ts.map IntsV.l).take (d ++ [x]).length).map (rnZ p fuel) ∧ Below w.heap.size w (V3.setCell ⟨Q, 0, none⟩ v3) ∧ lim ≤ (V3.setCell ⟨Q, 0, none⟩ v3).heap.size) :=
   ⟨kf, kp, v3, r4, by rw [Nk, List.map_singleton, AeF, Lf]; exact ai, au, b4, ar⟩
  obtain ⟨A3, m3, d3, rfl⟩ := Js aa;have c3 := r3.cellv (i := 0) (v := v) rfl;have f3 := r3.free 0;have ae := Lh ah;clear t u y h5 Mr Mb q r2 ao g ah aa ab a1 r3 o4 ai r4 b3 b4 kf kp ar au;gi_wp2_with (first | (refine Z2 rfl 37 _ rfl ⟨D, 0, none⟩ rfl [.int .i64 x.r.kind, .int .i64 x.r.value] _ (UY a3) Tryz.underlying37 rfl (by kernel_rfl) ?_) | (refine Acg _ _ _ _ rfl ?_))
  rw [← s, ← hM];clear s hM;refine Stop.to ?_;refine UL rfl (fun c h => by cases h) rfl _ (Q1 rfl ae.out) ?_;clear ae;gi_wp2_with fail
  exact HF.out
 case done =>
  rintro D ys V hD av ⟨v, t, u, h3, y, h5⟩ hK;have hr : ∀ r, some D = some r → False ∨ (True ∧ ∃ o : Obj, V.heap[r]? = some o ∧ o.isCells = false) := fun r e => by cases e; exact .inr ⟨trivial, _, hK, rfl⟩
  have hg := grownBy_putObj' V D (.deferred none);have ad := u.kept hg (.inr (Z1 u hK rfl));obtain ⟨A9, m9, c9, rfl⟩ := Js ad;have hc := t.cellv (i := 0) (v := .slice A9 m9 c9) rfl
  have hbl : Yg p (ts.map IntsV.l) fuel = ys.map RnX.rn := by
   unfold Yg;rw [Hb.out, if_pos rfl, h3, av, LH (by rw [L9]; exact Nat.le_refl _)]
  have HF : Hid (BaseR p (ts.map IntsV.l) fuel w (V.putObj D (.deferred none)) (.returned (.tuple #[.slice A9 m9 c9, .int .i64 0]))) := ⟨_, by rw [Hb.out], by rw [hbl]; exact QL ad (by have := ac.out; omega), y.grown hg y.size (fun k e => by cases e; have := ac.out; omega)⟩;have HK := Lh hK;clear hK hr hg t u h3 y h5 av ad hbl;gi_wp2;go_wp2_with fail
  refine ⟨by simp, .inl ⟨_, _, rfl, run_takeDeferred HK.out, ?_⟩⟩;exact ⟨_, results_tmp2 Tryz.results25 _ _ _, HF.out⟩
end Go.Proofs.YtdcmppdhdcjpfaaGreat
