/- Lemmas for VerdictTellsP. -/
import Derived.Test.YtdcmppdhdcjpfaaGreatZz1
import Derived.Test.YtdcmppdhdcjpfaaGreatZz13
import Derived.Test.YtdcmppdhdcjpfaaGreatZz20
import Derived.Test.YtdcmppdhdcjpfaaGreatZz39
import Derived.Test.YtdcmppdhdcjpfaaGreatZz34
import Derived.Test.YtdcmppdhdcjpfaaGreatZz14
import Derived.Test.YtdcmppdhdcjpfaaGreatZz40
set_option linter.unusedVariables false
set_option linter.unusedSimpArgs false
set_option maxRecDepth 100000
set_option maxHeartbeats 16000000
namespace Go.Proofs.YtdcmppdhdcjpfaaGreat
open Go.RowKit Go.Deep
def AgP (p : PgV) (ts : List IntsV) (fuel : Int) : Bool := AfK p && (El ts && (decide (p.body.length ≤ 40) && (decide (ts.length ≤ 5) && (decide (fuel ≤ 200) || decide (10000 < fuel)))))
theorem Ah3 {p : PgV} {ts : List IntsV} {fuel : Int} (h : AgP p ts fuel = true) : p.body.length ≤ 40 ∧ p.V.length ≤ 20 ∧ ts.length ≤ 5 ∧ (∀ x ∈ ts, x.l.length ≤ 40) ∧ (fuel ≤ 200 ∨ 10000 < fuel) := by
 unfold AgP AfK El at h;simp only [Nk, Bool.or_eq_true, decide_eq_true_eq] at h;exact ⟨h.2.2.1, h.1.2, h.2.2.2.1, h.2.1.2, h.2.2.2.2⟩
theorem AfJ (p : PgV) (A : Option Addr) (cap : Nat) (ts : List IntsV) (fuel : Int) (w : World) (hr : Rd w A (Ka ts)) : Calls Tryz.prog 24 #[.agg p.cells, .slice A ts.length cap, .int .i64 fuel] w fun e w' => e = .returned (.bool (AgP p ts fuel)) ∧ Below w.heap.size w w' := by
 have Hr := Lh hr;clear hr;have c : Hid (∀ {β : Bool}, (AfK p && (El ts && (decide (p.body.length ≤ 40) && (decide (ts.length ≤ 5) && (decide (fuel ≤ 200) || decide (10000 < fuel)))))) = β → AgP p ts fuel = β) := fun h => h
 go_enter Tryz.func24, Tryz.ntmps24
 go_wp2_with (refine Qn _ _ rfl ?_)
 refine Stop.to ?_;refine Qe rfl 25 _ rfl p.cells rfl ?_;intro G Gw Gh k Gb;have l := (Below.refl w.heap.size w).trans (Gb.mono Gh);clear Gb Gh;go_wp2_with (refine wpList_load_row rfl 25 _ rfl G rfl 25 p.cells (0, 0) _ k Tryz.underlying25 rfl (by kernel_rfl) ?_)
 refine (Ah4 p Gw).mono ?_;rintro e w1 ⟨rfl, y⟩;replace k := k.below y k.lt;replace l := l.trans (y.mono l.size);have j := Lh l;have t := AgO A cap ts w1 (Hr.out.go l);obtain ⟨n, hn⟩ : ∃ n, n = ts.length := ⟨_, rfl⟩;rw [← hn] at c t ⊢;have c2 := k.cellv (i := 2) (v := .slice p.ba p.body.length p.bcap) rfl;obtain ⟨m, hm⟩ : ∃ m, m = p.body.length := ⟨_, rfl⟩;rw [← hm] at c c2;obtain ⟨q, hq⟩ : ∃ q, q = AfK p := ⟨_, rfl⟩;rw [← hq] at c ⊢;obtain ⟨q2, s⟩ : ∃ q, q = El ts := ⟨_, rfl⟩;rw [← s] at c t;have HT := Lh t;clear y l k Hr hn hm hq s t;cases q
 · go_wp2_with fail
   go_ret
   exact ⟨Z4 (c.out (by simp)), j.out⟩
 go_wp2_with fail
 refine HT.out.mono ?_;rintro e w2 ⟨rfl, rfl⟩;clear HT;cases q2
 · go_wp2_with fail
   go_ret
   exact ⟨Z4 (c.out (by simp)), j.out⟩
 by_cases b : m ≤ 40;rotate_left
 · have z : ¬ (m : Int) ≤ 40 := by omega
   have ab : 40 < (m : Int) := by omega
   have H1 := Lh b;clear b;go_wp2_with fail
   go_ret
   exact ⟨Z4 (c.out (by have b := H1.out; simp [b])), j.out⟩
 have z : (m : Int) ≤ 40 := by omega
 by_cases o : n ≤ 5;rotate_left
 · have aa : ¬ (n : Int) ≤ 5 := by omega
   have ac : 5 < (n : Int) := by omega
   have H2 := Lh o;clear b o;go_wp2_with fail
   go_ret
   exact ⟨Z4 (c.out (by have o := H2.out; simp [o])), j.out⟩
 have aa : (n : Int) ≤ 5 := by omega
 have g := Lh (And.intro b o);clear b o;by_cases d : fuel ≤ 200
 · have u := Lh d;go_wp2_with fail
   go_ret
   exact ⟨Z4 (c.out (by have b := g.out; have d := u.out; simp [b.1, b.2, d])), j.out⟩
 have ad : 200 < fuel := by omega
 by_cases r : 10000 < fuel
 · have x := Lh r;clear d;go_wp2_with fail
   go_ret
   exact ⟨Z4 (c.out (by have b := g.out; have d := x.out; simp [b.1, b.2, d])), j.out⟩
 · have ae : fuel ≤ 10000 := by omega
   have u := Lh d;have x := Lh r;clear d r;go_wp2_with fail
   go_ret
   exact ⟨Z4 (c.out (by have b := g.out; have d := u.out; have r := x.out; simp only [b.1, b.2, d, r, decide_true, decide_false, N7, Bool.or_self])), j.out⟩
end Go.Proofs.YtdcmppdhdcjpfaaGreat
namespace Go.Proofs.YtdcmppdhdcjpfaaGreat
open Go.ChangeShapes Go.WideShapes Go.RowKit Go.Deep
structure TsV where
 A : Option Addr
 cap : Nat
 l : List IntsV
def TsV.val (t : TsV) : Value := .slice t.A t.l.length t.cap
structure TsRaw (W : World) (t : TsV) : Prop where
 len : t.l.length ≤ t.cap
 cap : t.cap ≤ maxLen
 nil : t.A = none → t.cap = 0
 rd : Rd W t.A (Ka t.l)
 ok : ∀ x ∈ t.l, x.ok W
structure OutV where
 k : Int
 v : Int
def OutV.cells (o : OutV) : Array Value := #[.int .i64 o.k, .int .i64 o.v]
def Agu (o : OutV) : Prop := InI o.k ∧ InI o.v
theorem VR : Tryz.prog.cellsOf 37 = 2 := by kernel_rfl
theorem Ad2 : Tryz.prog.cellsOf 3 = 1 := by kernel_rfl
section
variable {H : Type} {enc : TypeId × Value → H} {w : World} {base : Nat} {spare : Nat → Bool} {held : Bool}
theorem Adi {r : Go.Reach} {b0 : Nat} {v : Value} {d : DataW H} {p : List MemPlace} (hv : Value.okWide Tryz.prog w r b0 46 v) (h : DataW.Trod enc Tryz.prog w base spare held 46 v d p) :
 ∃ t : TsV, TsRaw w t ∧ v = t.val := by
 obtain ⟨a, len, b, rfl⟩ := okWide_slice Tryz.underlying46 hv;obtain ⟨i, q⟩ := h;obtain ⟨A, c, l, e, j, k, m, n, o⟩ := Adh q;have g : [Value.slice a len b] = [.slice A l.length c] := e;injection g with g;injection g with e3 e4 e5;subst e3 e4 e5;exact ⟨⟨_, _, l⟩, ⟨j, k, m, n, o⟩, rfl⟩
theorem Aba {r : Go.Reach} {b0 : Nat} {v : Value} {d : DataW H} {p : List MemPlace} (hv : Value.okWide Tryz.prog w r b0 37 v) (h : DataW.Trod enc Tryz.prog w base spare held 37 v d p) :
 ∃ o : OutV, Agu o ∧ v = .agg o.cells := by
 obtain ⟨e, rfl, j, x, s⟩ := AdB Tryz.underlying37 hv h;obtain ⟨q, n, k⟩ := YV Tryz.underlying37 s;have c : e.length = 2 := q.trans VR
 match e, c with
 | [a, b], _ =>
  obtain ⟨_, l⟩ := k 0 _ rfl;obtain ⟨_, m⟩ := k 1 _ rfl;obtain ⟨t, g, y⟩ := XQ Tryz.underlying3 l;obtain ⟨u, i, z⟩ := XQ Tryz.underlying3 m;simp [Ad2] at g i;exact ⟨⟨t, u⟩, ⟨y, z⟩, by rw [g, i]; rfl⟩
end
end Go.Proofs.YtdcmppdhdcjpfaaGreat
namespace Go.Proofs.YtdcmppdhdcjpfaaGreat
open Go.RowKit Go.Deep
attribute [local go_sem] Oper.semAt_some
theorem Agr {P : Program} {md : Region.Mode} {o : Array Oper} {Q : Exit → Act → World → Prop} {S : World → Prop} {n : Nat} {L : Array Bool} {f : Option Addr → Nat → Nat → Act} {F : Option Addr → Nat → Nat → World → Prop} {G : Prop}
 (main : (∀ (E : Option Addr) (ec : Nat) (C : Nat) W, F E ec C W → wpAnyH P md o Q S n L (f E ec C) W) → G) (tail : ∀ (E : Option Addr) (ec : Nat) (C : Nat) W, F E ec C W → wpAnyH P md o Q S n L (f E ec C) W) : G := main tail
theorem AbR (b r : Rn) (w : World) : Calls Tryz.prog 28 #[.agg b.cells, .agg r.cells] w fun e w' => e = .returned (.int .i64 (QZ b r)) ∧ Below w.heap.size w w' := by
 go_enter Tryz.func28, Tryz.ntmps28
 go_wp2_with (refine Qn _ _ rfl ?_)
 refine Stop.to ?_;refine Qe rfl 37 _ rfl b.cells rfl ?_;intro G Gw x j u;go_wp2_with (refine Qn _ _ rfl ?_)
 refine Stop.to ?_;refine Qe rfl 37 _ rfl r.cells rfl ?_;intro J Jw q s p;have t := (Below.refl w.heap.size w).trans (u.mono x);have n := t.trans ((p.mono q).mono t.size);replace j := j.below p (Ld j.lt q);clear u x p q t;have y := j.cellv (i := 0) (v := .int .i64 b.kind) rfl;have z := s.cellv (i := 0) (v := .int .i64 r.kind) rfl;by_cases g : b.kind = 4
 · have e1 : (b.kind == 4) = true := by simpa using g
   have d : Hid (QZ b r = 0) := by show _ = _; unfold QZ; rw [if_pos g]
   rw [g] at y;clear g;go_wp2_with fail
   go_ret
   exact ⟨by rw [d.out]; rfl, n⟩
 have e1 : (b.kind == 4) = false := by simpa using g
 by_cases l : r.kind = 4
 · have d : Hid (QZ b r = 2) := by show _ = _; unfold QZ; rw [if_neg g, if_pos l]
   rw [l] at z;clear l;go_wp2_with fail
   go_ret
   exact ⟨by rw [d.out]; rfl, n⟩
 have e2 : (r.kind == 4) = false := by simpa using l
 have k := Yl r.kind r.value b.kind b.value;have d : Hid (QZ b r = if r.kind = b.kind ∧ r.value = b.value then 0 else 1) := by show _ = _; unfold QZ; rw [if_neg g, if_neg l]
 by_cases h : r.kind = b.kind ∧ r.value = b.value
 · rw [if_pos h] at d;have m : (!(r.kind == b.kind && r.value == b.value)) = false := by simp [h.1, h.2]
   rw [m] at k;have o := Lh k;clear h m k;go_wp2_with (first | (refine wpList_load_row rfl 37 _ rfl J rfl 37 r.cells (0, 0) _ s Tryz.underlying37 rfl (by kernel_rfl) ?_) | (refine wpList_load_row rfl 37 _ rfl G rfl 37 b.cells (0, 0) _ j Tryz.underlying37 rfl (by kernel_rfl) ?_) | (refine Q9 rfl _ (Jz rfl _ (run_eqGuard_agg _ _ _ _ _ _ _ (by kernel_rfl)) (o.out _)) ?_))
   go_ret
   exact ⟨by rw [d.out]; rfl, n⟩
 · rw [if_neg h] at d
   have m : (!(r.kind == b.kind && r.value == b.value)) = true := by
    by_cases a : r.kind = b.kind
    · have : ¬ r.value = b.value := fun c => h ⟨a, c⟩
      simp [a, this]
    · simp [a]
   rw [m] at k;have o := Lh k;clear h m k;go_wp2_with (first | (refine wpList_load_row rfl 37 _ rfl J rfl 37 r.cells (0, 0) _ s Tryz.underlying37 rfl (by kernel_rfl) ?_) | (refine wpList_load_row rfl 37 _ rfl G rfl 37 b.cells (0, 0) _ j Tryz.underlying37 rfl (by kernel_rfl) ?_) | (refine Q9 rfl _ (Jz rfl _ (run_eqGuard_agg _ _ _ _ _ _ _ (by kernel_rfl)) (o.out _)) ?_))
   go_ret
   exact ⟨by rw [d.out]; rfl, n⟩
theorem AbK {w : World} {b size n m c : Nat} {A : Option Addr} {e : TypeId} {xs : List Value} (h : w.ownsRow b e size (.slice A m c) n xs) : m = n := by
 rcases h.2 with ⟨d, rfl⟩ | ⟨g, i, j, d, _⟩
 · cases d; rfl
 · cases d; rfl
theorem Adm (p : PgV) (A : Option Addr) (cap : Nat) (ts : List IntsV) (fuel : Int) (w : World) (hok : p.ok w) (hbl : p.body.length ≤ 1000) (hr : Rd w A (Ka ts)) (hot : ∀ x ∈ ts, x.ok w) (hl : ts.length ≤ 1000) :
 Calls Tryz.prog 26 #[.agg p.cells, .slice A ts.length cap, .int .i64 fuel] w fun e w' => BaseR p (ts.map IntsV.l) fuel w w' e := by
 have az := Lh hbl;have Hl := Lh hl;have bo := Lh hok;have Hr := Lh hr;have bp := Lh hot;clear hbl hl;go_enter Tryz.func26, Tryz.ntmps26
 obtain ⟨S0, d⟩ : ∃ S : World → Prop, S = (fun W => Below w.heap.size w W ∧ p.ok W ∧ Rd W A (Ka ts) ∧ (∀ y ∈ ts, y.ok W)) := ⟨_, rfl⟩;have bs : St S0 := by rw [d]; infer_instance
 have aa : Hid (∀ W, S0 W → Below w.heap.size w W) := by show ∀ W, _; rw [d]; exact fun W h => h.1
 have af : Hid (∀ W, S0 W → p.ok W) := by show ∀ W, _; rw [d]; exact fun W h => h.2.1
 have ah : Hid (∀ W, S0 W → Rd W A (Ka ts)) := by show ∀ W, _; rw [d]; exact fun W h => h.2.2.1
 have ab : Hid (∀ W, S0 W → (∀ y ∈ ts, y.ok W)) := by show ∀ W, _; rw [d]; exact fun W h => h.2.2.2
 have ba : Hid (S0 w) := by show S0 w; rw [d]; exact ⟨Below.refl _ _, hok, hr, hot⟩
 clear d;clear hok hr hot;go_wp2_with (refine Qn _ _ rfl ?_)
 refine Stop.to ?_;refine Qe rfl 25 _ rfl p.cells rfl ?_;intro ai a9 hG rG bG;have j := bs.go ba.out (bG.mono hG);obtain ⟨S1, d⟩ : ∃ S : World → Prop, S = (fun W => S0 W ∧ Row W ai 25 p.cells) := ⟨_, rfl⟩;have bl : St S1 := by rw [d]; infer_instance
 have D1 : Hid (∀ W, S1 W → S0 W) := by show ∀ W, _; rw [d]; exact fun W h => h.1
 have an : Hid (∀ W, S1 W → Row W ai 25 p.cells) := by show ∀ W, _; rw [d]; exact fun W h => h.2
 have s : Hid (S1 a9) := by show S1 a9; rw [d]; exact ⟨j, rG⟩
 clear d;clear j ba hG rG bG;go_wp2_with (refine wpList_load_row rfl 25 _ rfl ai rfl 25 p.cells (0, 0) _ (an.out _ s.out) Tryz.underlying25 rfl (by kernel_rfl) ?_)
 refine (Aay p az.out a9 (af.out _ (D1.out _ s.out))).mono ?_;rintro e bm ⟨rfl, bb⟩;have j := bl.go s.out (bb);replace s := Lh j;clear j bb;obtain ⟨z, hz⟩ : ∃ z, z = Q1 p := ⟨_, rfl⟩;rw [← hz];by_cases h0 : z = 0;rotate_left
 · have br : (z != 0) = true := by simpa using h0
   have hb : JE p (ts.map IntsV.l) fuel = z := by unfold JE; rw [← hz, if_pos h0]
   have HF : Hid (BaseR p (ts.map IntsV.l) fuel w bm (.returned (.tuple #[.slice none 0 0, .int .i64 z]))) := ⟨_, by rw [hb], by unfold KI; rw [hb, if_neg h0]; exact World.ownsRow_nil _ _ _ _, (aa.out _ (D1.out _ s.out))⟩;clear hz h0 hb;go_wp2_with fail
   refine bodyPost_ret (results_tmp2 Tryz.results26 _ _ _) rfl ?_;exact HF.out
 have Hz : Hid (Q1 p = 0) := hz.symm.trans h0;subst h0;clear hz;have c0 := (an.out _ s.out).cellv (i := 0) (v := .int .i64 p.params) rfl;go_wp2_with fail
 refine (AbQ p.params fuel A cap ts bm (ah.out _ (D1.out _ s.out)) (by have := Hl.out; omega)).mono ?_;rintro e bu ⟨rfl, bk⟩;have j := bl.go s.out (by rw [bk]; exact Below.refl _ _);replace s := Lh j;clear j bk;clear c0;obtain ⟨z, hz⟩ : ∃ z, z = Jl p.params (ts.map IntsV.l) fuel := ⟨_, rfl⟩;rw [← hz];have hb : JE p (ts.map IntsV.l) fuel = z := by unfold JE; rw [if_neg (by rw [Hz.out]; simp), ← hz]
 have Hb := Lh hb;clear hz hb;by_cases h0 : z = 0;rotate_left
 · have br : (z != 0) = true := by simpa using h0
   have HF : Hid (BaseR p (ts.map IntsV.l) fuel w bu (.returned (.tuple #[.slice none 0 0, .int .i64 z]))) := ⟨_, by rw [Hb.out], by unfold KI; rw [Hb.out, if_neg h0]; exact World.ownsRow_nil _ _ _ _, (aa.out _ (D1.out _ s.out))⟩;clear h0 Hb;go_wp2_with fail
   refine bodyPost_ret (results_tmp2 Tryz.results26 _ _ _) rfl ?_;exact HF.out
 subst h0;have av : Hid (∀ x ∈ ts, x.l.length ≤ 1000) := UI Hb.out;have bf := (aa.out _ (D1.out _ s.out));have be := (an.out _ s.out);go_wp2_with fail
 go_loopw [10, 11] (fun v i wr => ∃ k : Nat, i = .int .i64 (k : Int) ∧ k ≤ ts.length ∧ wr.ownsRow w.heap.size 37 2 v k (Z3 (((ts.map IntsV.l).take k).map (rnZ p fuel))) ∧ Below w.heap.size w wr ∧ Row wr ai 25 p.cells) (fun _ i _ => ts.length - (intOf i).toNat)
 case atStart => exact ⟨0, rfl, Nat.zero_le _, World.ownsRow_nil _ _ _ _, bf, be⟩
 case round =>
  clear bf be s;obtain ⟨k, rfl, hk, q, hb, hP⟩ := hrel;obtain ⟨vA, vm, vc, rfl⟩ := ZY q;obtain rfl : vm = k := AbK q;by_cases bi : vm < ts.length
  · skip;obtain ⟨t, ht⟩ : ∃ t, ts[vm]? = some t := ⟨_, La bi⟩;have Ht := Lh ht;have u : Hid (t ∈ ts) := Lf ht;obtain ⟨ad, bq, _⟩ := KU (Hr.out.go hb) ht;subst bq;have bw : (vm : Int) < (ts.length : Int) := by omega
    have bx : (0 : Int) ≤ (vm : Int) := by omega
    have Hk := Lh hk;have bz : (ts.length : Int) ≤ 1000 := by have := Hl.out; omega
    clear ht hk;obtain ⟨S6, d⟩ : ∃ S : World → Prop, S = (fun W => Below w.heap.size w W ∧ p.ok W ∧ Rd W (some ad) (Ka ts) ∧ (∀ y ∈ ts, y.ok W) ∧ Row W ai 25 p.cells ∧ W.ownsRow w.heap.size 37 2 (.slice vA vm vc) vm (Z3 (((ts.map IntsV.l).take vm).map (rnZ p fuel)))) := ⟨_, rfl⟩;have bt : St S6 := by rw [d]; infer_instance
    have aa : Hid (∀ W, S6 W → Below w.heap.size w W) := by show ∀ W, _; rw [d]; exact fun W h => h.1
    have af : Hid (∀ W, S6 W → p.ok W) := by show ∀ W, _; rw [d]; exact fun W h => h.2.1
    have ah : Hid (∀ W, S6 W → Rd W (some ad) (Ka ts)) := by show ∀ W, _; rw [d]; exact fun W h => h.2.2.1
    have ab : Hid (∀ W, S6 W → (∀ y ∈ ts, y.ok W)) := by show ∀ W, _; rw [d]; exact fun W h => h.2.2.2.1
    have an : Hid (∀ W, S6 W → Row W ai 25 p.cells) := by show ∀ W, _; rw [d]; exact fun W h => h.2.2.2.2.1
    have ay : Hid (∀ W, S6 W → W.ownsRow w.heap.size 37 2 (.slice vA vm vc) vm (Z3 (((ts.map IntsV.l).take vm).map (rnZ p fuel)))) := by show ∀ W, _; rw [d]; exact fun W h => h.2.2.2.2.2
    have bc : Hid (S6 wr) := by show S6 wr; rw [d]; exact ⟨hb, bo.out.go hb, Hr.out.go hb, fun y hy => (bp.out y hy).go hb, hP, q⟩
    clear d;clear hb hP q;go_wp2_with fail
    obtain ⟨n, a3⟩ : ∃ V, V = (wr).drew := ⟨_, rfl⟩;have bh : S6 n := by rw [a3]; exact St.drew bc.out
    refine wp_region_held (S := fun W => Below n.heap.size n W) (by kernel_rfl) ?_;simp only [Lk, Lc, Lr, Nat.reduceAdd, Ll, Lm, Lu, Lp, Ln];show wpAnyH _ _ _ _ _ _ _ _ (wr).drew;rw [← a3];obtain ⟨T4, ap⟩ : ∃ T : World → Prop, T = (fun W => Below n.heap.size n W) := ⟨_, rfl⟩;rw [← ap];have t0 : Hid (∀ W, T4 W → S6 W) := by show ∀ W, _; rw [ap]; exact fun W h => bt.go bh h
    have aj : Hid (∀ W, T4 W → n.heap.size ≤ W.heap.size) := by show ∀ W, _; rw [ap]; exact fun W h => h.size
    have tB : Hid (∀ W W', T4 W → Below n.heap.size W W' → T4 W') := by show ∀ W W', _; rw [ap]; exact fun W W' h b => h.trans b
    have o : T4 n := by rw [ap]; exact Below.refl _ _
    clear ap a3 bh bc;(refine tkH 0 _ rfl ((Xl rfl 25 _ rfl ai rfl 25 p.cells _ (fun W hW => (an.out _ (t0.out _ hW))) Tryz.underlying25 rfl (by kernel_rfl))) ?_; simp only [Act.put, Qa, Qb, Qc]);(refine tkH 1 (.slice (some ad) ts.length cap) rfl (Qd rfl (fun W hW => by (go_simp))) ?_; simp only [Act.put, Qa, Qb, Qc]);(refine tkH 2 (.int .i64 (vm : Int)) rfl (Qd rfl (fun W hW => by (go_simp))) ?_; simp only [Act.put, Qa, Qb, Qc]);(refine tkH 3 (.pointer (some (ad.add vm))) rfl (Qd rfl (fun W hW => by (go_simp))) ?_; simp only [Act.put, Qa, Qb, Qc]);(refine tkH 4 (.slice t.addr t.l.length t.cap) rfl (Qd rfl (fun W hW => by ((have c := (by obtain ⟨a2, e2, h2⟩ := KU (ah.out _ (t0.out _ hW)) Ht.out; injection e2 with e2; rw [e2]; exact h2 : W.cell? (ad.add vm) = some (.slice t.addr t.l.length t.cap)); go_simp)))) ?_; simp only [Act.put, Qa, Qb, Qc]);(refine tkH 5 (.int .i64 fuel) rfl (Qd rfl (fun W hW => by (go_simp))) ?_; simp only [Act.put, Qa, Qb, Qc]);apply Agr (F := fun E ec C4 W => T4 W ∧ Row W C4 40 #[.int .i64 0, .int .i64 0, .int .i64 0, .slice none 0 0] ∧ n.heap.size ≤ C4)
    case main =>
     intro tJ;refine wpAnyH_all (rs := [6, 10]) (by kernel_rfl) (by simp) (fun i hi => ?_);simp only [Lv, L5, or_false] at hi;rcases hi with rfl | rfl
     · skip;refine Qg rfl rfl (fun K2 r => ?_);refine Qt 72 #[.agg p.cells, .slice t.addr t.l.length t.cap, .int .i64 fuel] (w1 := n) (by go_simp) ((Ai2 p t.addr t.cap t.l fuel n az.out (av.out t u.out) (af.out _ (t0.out _ o)) ((ab.out _ (t0.out _ o)) t u.out).reads ((ab.out _ (t0.out _ o)) t u.out).all).mono ?_);rintro e ag ⟨E, ec, rfl, a8, a5, a6, a7, bb⟩;refine ⟨_, rfl, ?_⟩;refine r _ _ ?_;clear r K2;simp only [Act.put, Qa, Qb, Qc];rw [AaJ Hb.out (Nx u.out)];have g : T4 ag := tB.out _ _ o (bb.mono (aj.out _ o));clear bb  a8 a5 a6 a7;refine ⟨g, ?_⟩;(refine tkH 7 (.tuple #[.agg ((ZF p t.l fuel).rv E ec).cells, .int .i64 0]) rfl (Qd rfl (fun W hW => by ((go_simp; rfl)))) ?_; simp only [Act.put, Qa, Qb, Qc]);(refine tkH 8 (.agg ((ZF p t.l fuel).rv E ec).cells) rfl (Qd rfl (fun W hW => by (go_simp))) ?_; simp only [Act.put, Qa, Qb, Qc]);(refine tkH 9 (.int .i64 0) rfl (Qd rfl (fun W hW => by (go_simp))) ?_; simp only [Act.put, Qa, Qb, Qc]);(refine wpAnyH_all (rs := [10]) (by kernel_rfl) (by simp) (fun i hi => ?_); obtain rfl : i = 10 := by simpa using hi);refine Qg rfl rfl (fun K2 r => ?_);refine ZZ 40 rfl _ _ KY rfl ?_;intro C4 ak hC rC bC;refine r _ _ ?_;clear r K2;simp only [Act.put, Qa, Qb, Qc];have ao : n.heap.size ≤ C4 := Li (aj.out _ g) hC;have ae : T4 ak := tB.out _ _ g ((bC.mono hC).mono (aj.out _ g));clear bC hC g;refine ⟨ae, ?_⟩;exact tJ E ec C4 _ ⟨ae, rC, ao⟩
     · skip;refine Qg rfl rfl (fun K2 r => ?_);refine ZZ 40 rfl _ _ KY rfl ?_;intro C4 ag hC rC bC;refine r _ _ ?_;clear r K2;simp only [Act.put, Qa, Qb, Qc];have ao : n.heap.size ≤ C4 := Li (aj.out _ o) hC;have g : T4 ag := tB.out _ _ o ((bC.mono hC).mono (aj.out _ o));clear bC hC ;refine ⟨g, ?_⟩;have bv := rC.lt;(refine wpAnyH_all (rs := [6]) (by kernel_rfl) (by simp) (fun i hi => ?_); obtain rfl : i = 6 := by simpa using hi);refine Qg rfl rfl (fun K2 r => ?_);refine Qt 72 #[.agg p.cells, .slice t.addr t.l.length t.cap, .int .i64 fuel] (w1 := ag) (by go_simp) ((Ai2 p t.addr t.cap t.l fuel ag az.out (av.out t u.out) (af.out _ (t0.out _ g)) ((ab.out _ (t0.out _ g)) t u.out).reads ((ab.out _ (t0.out _ g)) t u.out).all).mono ?_);rintro e ak ⟨E, ec, rfl, a8, a5, a6, a7, bb⟩;refine ⟨_, rfl, ?_⟩;refine r _ _ ?_;clear r K2;simp only [Act.put, Qa, Qb, Qc];rw [AaJ Hb.out (Nx u.out)];replace rC := rC.below bb rC.lt;have ae : T4 ak := tB.out _ _ g (bb.mono (aj.out _ g));clear bb g a8 a5 a6 a7;refine ⟨ae, ?_⟩;(refine tkH 7 (.tuple #[.agg ((ZF p t.l fuel).rv E ec).cells, .int .i64 0]) rfl (Qd rfl (fun W hW => by ((go_simp; rfl)))) ?_; simp only [Act.put, Qa, Qb, Qc]);(refine tkH 8 (.agg ((ZF p t.l fuel).rv E ec).cells) rfl (Qd rfl (fun W hW => by (go_simp))) ?_; simp only [Act.put, Qa, Qb, Qc]);(refine tkH 9 (.int .i64 0) rfl (Qd rfl (fun W hW => by (go_simp))) ?_; simp only [Act.put, Qa, Qb, Qc]);exact tJ E ec C4 _ ⟨ae, rC, ao⟩
    case tail =>
     rintro E ec C4 ak ⟨h2, rC, ao⟩;(refine wpAnyH_all (rs := [11]) (by kernel_rfl) (by simp) (fun i hi => ?_); obtain rfl : i = 11 := by simpa using hi);refine Qg rfl rfl (fun K2 r => ?_);refine Jg 40 _ _ rfl C4 ((ZF p t.l fuel).rv E ec).cells rfl rfl 40 _ rC (by kernel_rfl) rfl (Ajk _) ?_;intro ac r9 o9;refine r _ _ ?_;clear r K2;simp only [Act.put, Qa, Qb, Qc];have h9 : T4 ac := tB.out _ _ h2 (o9.below ao);have j := t0.out _ h9;refine ⟨h9, ?_⟩;(refine tkH 12 (.int .i64 0) rfl (Qd rfl (fun W hW => by (go_simp))) ?_; simp only [Act.put, Qa, Qb, Qc]);refine wpAnyH_done (by kernel_rfl) ?_ _;obtain ⟨S7, d⟩ : ∃ S : World → Prop, S = (fun W => S6 W ∧ Row W C4 40 ((ZF p t.l fuel).rv E ec).cells) := ⟨_, rfl⟩;have b0 : St S7 := by rw [d]; infer_instance
     have D7 : Hid (∀ W, S7 W → S6 W) := by show ∀ W, _; rw [d]; exact fun W h => h.1
     have bn : Hid (∀ W, S7 W → Row W C4 40 ((ZF p t.l fuel).rv E ec).cells) := by show ∀ W, _; rw [d]; exact fun W h => h.2
     have ar : Hid (S7 ac) := by show S7 ac; rw [d]; exact ⟨j, r9⟩
     clear d;clear h2 ao h9 t0 aj tB;have q := (ay.out _ (D7.out _ ar.out));have hP := (an.out _ (D7.out _ ar.out));obtain ⟨MM, a1⟩ : ∃ M, M = (ac).heap.size := ⟨_, rfl⟩;obtain ⟨V1, au⟩ : ∃ V1, V1 = (ac).alloc (.cells #[.int .i64 ((ZF p t.l fuel).out.getD (0, 0)).1, .int .i64 ((ZF p t.l fuel).out.getD (0, 0)).2] 37) := ⟨_, rfl⟩;have Mr : Row V1 MM 37 #[.int .i64 ((ZF p t.l fuel).out.getD (0, 0)).1, .int .i64 ((ZF p t.l fuel).out.getD (0, 0)).2] := by rw [au, a1]; exact Row.new _ _ _
     have Mb : Below (ac).heap.size (ac) V1 := by rw [au]; exact (Below.refl _ _).alloc (Nat.le_refl _) _
     have am := Qz q Mb;have al := (aa.out _ (D7.out _ ar.out));have a0 : w.heap.size ≤ V1.heap.size := Li al.size Mb.size;have P2 := hP.below Mb hP.lt;obtain ⟨v3, V3, ax, aq, a4, -⟩ := ZW (P := Tryz.prog) 48 37 (.agg #[.int .i64 0, .int .i64 0]) 2 16 Tryz.underlying48 Afd rfl (by decide) (by decide) am a0 (JZ (cs := (rnZ p fuel t.l).cells.toList) Mr) (m := 1) (cap := 1) rfl (Ahq _) (by simp) (by have := Hl.out; have := Hk.out; omega);have bg := QO (al.trans (Mb.mono al.size)) am a4 a0 (Nat.le_refl _);have P3 := P2.grown a4 (QC am P2 (by decide));have bj : Z3 (((ts.map IntsV.l).take vm).map (rnZ p fuel)) ++ (rnZ p fuel t.l).cells.toList = Z3 (((ts.map IntsV.l).take (vm + 1)).map (rnZ p fuel)) := by rw [L6, LA, Ht.out, Np, Option.toList_some, Na, List.map_singleton, EK]
     rw [bj] at aq;have HF := Lh (And.intro aq (And.intro bg P3));have aw := Lh ax;clear q hP am aq a4 bg al a0 Mr Mb bj ax P2 P3;go_wp2_with (first | (refine QE rfl 37 _ rfl ⟨C4, 0, none⟩ rfl [.int .i64 ((ZF p t.l fuel).out.getD (0, 0)).1, .int .i64 ((ZF p t.l fuel).out.getD (0, 0)).2] _ (YC (bn.out _ ar.out)) Tryz.underlying37 rfl (by kernel_rfl) ?_) | (refine AeY _ _ _ _ rfl ?_))
     rw [← au, ← a1];clear au a1;refine Stop.to ?_;refine Q9 rfl _ (QV rfl aw.out) ?_;clear aw;go_wp2_with fail
     go_roundw
     case rel => exact ⟨vm + 1, by go_num, by omega, HF.out.1, HF.out.2⟩
     case measure => simp [intOf]; omega
  · obtain rfl : vm = ts.length := by omega
    have bd : (ts.map IntsV.l).take ts.length = ts.map IntsV.l := L1 (by simp);rw [bd] at q;have HF : Hid (BaseR p (ts.map IntsV.l) fuel w wr (.returned (.tuple #[.slice vA ts.length vc, .int .i64 0]))) := ⟨_, by rw [Hb.out], by unfold KI; rw [Hb.out, if_pos rfl, L3, L3]; exact q, hb⟩;clear bi hk bd q hb hP;go_wp2_with fail
    refine bodyPost_ret (results_tmp2 Tryz.results26 _ _ _) rfl ?_;exact HF.out
end Go.Proofs.YtdcmppdhdcjpfaaGreat
namespace Go.Proofs.YtdcmppdhdcjpfaaGreat
open Go.RowKit Go.Deep
theorem UA (a b : OutV) (p : PgV) (t : TsV) (fuel : Int) (hfuelI : -9223372036854775808 ≤ fuel ∧ fuel ≤ 9223372036854775807) (w : World) (ha : Agu a) (hb : Agu b) (hok : p.ok w) (ht : TsRaw w t) : Calls Tryz.prog 4 #[.agg a.cells, .agg b.cells, p.val, t.val, .int .i64 fuel] w fun e w' => e = .returned (.bool true) ∧ Below w.heap.size w w' := by
 clear ha hb;obtain ⟨tA, aa, ts⟩ := t;obtain ⟨ba, bc, bd, be, bf⟩ := ht;rw [show p.val = .agg p.cells from rfl, show (TsV.mk tA aa ts).val = .slice tA ts.length aa from rfl];have bt : Hid (ts.length ≤ aa ∧ aa ≤ maxLen ∧ (tA = none → aa = 0)) := ⟨ba, bc, bd⟩;go_enter Tryz.func4, Tryz.ntmps4
 obtain ⟨S0, g⟩ : ∃ S : World → Prop, S = (fun W => Below w.heap.size w W ∧ p.ok W ∧ Rd W tA (Ka ts) ∧ (∀ y ∈ ts, y.ok W)) := ⟨_, rfl⟩;have bm : St S0 := by rw [g]; infer_instance
 have ad : Hid (∀ W, S0 W → Below w.heap.size w W) := by show ∀ W, _; rw [g]; exact fun W h => h.1
 have ae : Hid (∀ W, S0 W → p.ok W) := by show ∀ W, _; rw [g]; exact fun W h => h.2.1
 have ab : Hid (∀ W, S0 W → Rd W tA (Ka ts)) := by show ∀ W, _; rw [g]; exact fun W h => h.2.2.1
 have af : Hid (∀ W, S0 W → (∀ y ∈ ts, y.ok W)) := by show ∀ W, _; rw [g]; exact fun W h => h.2.2.2
 have aw : Hid (S0 w) := by show S0 w; rw [g]; exact ⟨Below.refl _ _, hok, be, bf⟩
 clear g;clear ba bc bd be bf hok;go_wp2_with (refine Qn _ _ rfl ?_)
 refine Stop.to ?_;refine Qe rfl 37 _ rfl a.cells rfl ?_;intro ai bi hG rG bG;have d := bm.go aw.out (bG.mono hG);obtain ⟨S1, g⟩ : ∃ S : World → Prop, S = (fun W => S0 W ∧ Row W ai 37 a.cells) := ⟨_, rfl⟩;have bn : St S1 := by rw [g]; infer_instance
 have D1 : Hid (∀ W, S1 W → S0 W) := by show ∀ W, _; rw [g]; exact fun W h => h.1
 have au : Hid (∀ W, S1 W → Row W ai 37 a.cells) := by show ∀ W, _; rw [g]; exact fun W h => h.2
 have ax : Hid (S1 bi) := by show S1 bi; rw [g]; exact ⟨d, rG⟩
 clear g;clear d aw hG rG bG;go_wp2_with (refine Qn _ _ rfl ?_)
 refine Stop.to ?_;refine Qe rfl 37 _ rfl b.cells rfl ?_;intro aj bj hG rG bG;have d := bn.go ax.out (bG.mono hG);obtain ⟨S2, g⟩ : ∃ S : World → Prop, S = (fun W => S1 W ∧ Row W aj 37 b.cells) := ⟨_, rfl⟩;have bo : St S2 := by rw [g]; infer_instance
 have D2 : Hid (∀ W, S2 W → S1 W) := by show ∀ W, _; rw [g]; exact fun W h => h.1
 have av : Hid (∀ W, S2 W → Row W aj 37 b.cells) := by show ∀ W, _; rw [g]; exact fun W h => h.2
 have ay : Hid (S2 bj) := by show S2 bj; rw [g]; exact ⟨d, rG⟩
 clear g;clear d ax hG rG bG;go_wp2_with (refine Qn _ _ rfl ?_)
 refine Stop.to ?_;refine Qe rfl 25 _ rfl p.cells rfl ?_;intro ag aq hG rG bG;have d := bo.go ay.out (bG.mono hG);obtain ⟨S3, g⟩ : ∃ S : World → Prop, S = (fun W => S2 W ∧ Row W ag 25 p.cells) := ⟨_, rfl⟩;have ap : St S3 := by rw [g]; infer_instance
 have D3 : Hid (∀ W, S3 W → S2 W) := by show ∀ W, _; rw [g]; exact fun W h => h.1
 have ao : Hid (∀ W, S3 W → Row W ag 25 p.cells) := by show ∀ W, _; rw [g]; exact fun W h => h.2
 have o : Hid (S3 aq) := by show S3 aq; rw [g]; exact ⟨d, rG⟩
 clear g;clear d ay hG rG bG;go_wp2_with fail
 refine (AdK aq).mono ?_;rintro e bq ⟨rfl, bb⟩;have d := ap.go o.out (bb);replace o := Lh d;clear d bb;go_wp2_with (refine wpList_load_row rfl 25 _ rfl ag rfl 25 p.cells (0, 0) _ (ao.out _ o.out) Tryz.underlying25 rfl (by kernel_rfl) ?_)
 refine (AfJ p tA aa ts fuel bq (ab.out _ (D1.out _ (D2.out _ (D3.out _ o.out))))).mono ?_;rintro e br ⟨rfl, bb⟩;have d := ap.go o.out (bb);replace o := Lh d;clear d bb;generalize hq : AgP p ts fuel = q;have Hq := Lh hq;clear hq;cases q
 · skip;go_wp2_with fail
   go_ret
   exact ⟨rfl, (ad.out _ (D1.out _ (D2.out _ (D3.out _ o.out))))⟩
 have ak := Ah3 Hq.out;have az : Hid (p.body.length ≤ 40) := ak.1;have a0 : Hid (ts.length ≤ 5) := ak.2.2.1;have bs : Hid (∀ x ∈ ts, x.l.length ≤ 40) := ak.2.2.2.1;have bg : (ts.length : Int) ≤ 5 := by omega
 clear ak Hq;obtain ⟨L, hL⟩ : ∃ L, L = KI p (List.map IntsV.l ts) fuel := ⟨_, rfl⟩;have HL := Lh hL;clear hL;go_wp2_with (refine wpList_load_row rfl 25 _ rfl ag rfl 25 p.cells (0, 0) _ (ao.out _ o.out) Tryz.underlying25 rfl (by kernel_rfl) ?_)
 refine (VP p tA aa ts fuel br (ae.out _ (D1.out _ (D2.out _ (D3.out _ o.out)))) (by have := az.out; omega) (ab.out _ (D1.out _ (D2.out _ (D3.out _ o.out)))) (af.out _ (D1.out _ (D2.out _ (D3.out _ o.out)))) (by have := a0.out; omega)).mono ?_;rintro e ar ⟨v, rfl, m, bb⟩;rw [← HL.out] at m;obtain ⟨A1, m1, c1, rfl⟩ := ZY m;obtain rfl := AbK m;have d := ap.go o.out (bb);obtain ⟨S4, g⟩ : ∃ S : World → Prop, S = (fun W => S3 W ∧ Rd W A1 (Z3 L)) := ⟨_, rfl⟩;have bp : St S4 := by rw [g]; infer_instance
 have D4 : Hid (∀ W, S4 W → S3 W) := by show ∀ W, _; rw [g]; exact fun W h => h.1
 have al : Hid (∀ W, S4 W → Rd W A1 (Z3 L)) := by show ∀ W, _; rw [g]; exact fun W h => h.2
 have ac : Hid (S4 ar) := by show S4 ar; rw [g]; exact ⟨d, Xq m⟩
 clear g;clear d o bb m;go_wp2_with (refine wpList_load_row rfl 25 _ rfl ag rfl 25 p.cells (0, 0) _ (ao.out _ (D4.out _ ac.out)) Tryz.underlying25 rfl (by kernel_rfl) ?_)
 refine (Adm p tA aa ts fuel ar (ae.out _ (D1.out _ (D2.out _ (D3.out _ (D4.out _ ac.out))))) (by have := az.out; omega) (ab.out _ (D1.out _ (D2.out _ (D3.out _ (D4.out _ ac.out))))) (af.out _ (D1.out _ (D2.out _ (D3.out _ (D4.out _ ac.out))))) (by have := a0.out; omega)).mono ?_;rintro e an ⟨v, rfl, m, bb⟩;rw [← HL.out] at m;obtain ⟨A2, m2, c2, rfl⟩ := ZY m;obtain rfl := AbK m;have d := bp.go ac.out (bb);obtain ⟨S5, g⟩ : ∃ S : World → Prop, S = (fun W => S4 W ∧ Rd W A2 (Z3 L)) := ⟨_, rfl⟩;have bx : St S5 := by rw [g]; infer_instance
 have D5 : Hid (∀ W, S5 W → S4 W) := by show ∀ W, _; rw [g]; exact fun W h => h.1
 have am : Hid (∀ W, S5 W → Rd W A2 (Z3 L)) := by show ∀ W, _; rw [g]; exact fun W h => h.2
 have s : Hid (S5 an) := by show S5 an; rw [g]; exact ⟨d, Xq m⟩
 clear g;clear d ac bb m;generalize JE p (List.map IntsV.l ts) fuel = z;obtain ⟨n, hn⟩ : ∃ n, n = L.length := ⟨_, rfl⟩;rw [← hn];have Hn := Lh hn
 have bw : (n : Int) ≤ 5 := by
  rw [hn, HL.out]; unfold KI;split
  · rw [L3, L3]; exact bg
  · simp
 clear hn;have a5 := s.out;go_wp2_with fail
 go_loopw [16] (fun i wr => ∃ k : Nat, i = .int .i64 (k : Int) ∧ k ≤ n ∧ S5 wr) (fun i _ => n - (intOf i).toNat)
 case atStart => exact ⟨0, rfl, Nat.zero_le _, a5⟩
 case round =>
  clear a5 s;obtain ⟨k, rfl, hk, a6⟩ := hrel;have s := Lh a6;clear a6;by_cases a9 : k < n
  · skip;obtain ⟨r, hr⟩ : ∃ r, L[k]? = some r := ⟨_, La (by rw [← Hn.out]; exact a9)⟩;have Hr := Lh hr;have bv : (k : Int) < (n : Int) := by omega
    have bu : (0 : Int) ≤ (k : Int) := by omega
    obtain ⟨a3, a7, _⟩ := Vb (c := fun r : Rn => r.cells.toList) (sz := 2) (fun _ => rfl) (by decide) (al.out _ (D5.out _ s.out)) hr;subst a7
    have bk : Hid (∀ W, S5 W → ∀ (j : Nat) u, (X0 r.kind r.value)[j]? = some u → W.cell? ((a3.add (k * 2)).add j) = some u) := fun W hW => by
     obtain ⟨a2, e2, h2⟩ := Vb (c := fun r : Rn => r.cells.toList) (sz := 2) (fun _ => rfl) (by decide) (al.out _ (D5.out _ hW)) Hr.out;injection e2 with e2; rw [e2]; exact h2
    obtain ⟨a4, a8, _⟩ := Vb (c := fun r : Rn => r.cells.toList) (sz := 2) (fun _ => rfl) (by decide) (am.out _ s.out) hr;subst a8
    have bl : Hid (∀ W, S5 W → ∀ (j : Nat) u, (X0 r.kind r.value)[j]? = some u → W.cell? ((a4.add (k * 2)).add j) = some u) := fun W hW => by
     obtain ⟨a2, e2, h2⟩ := Vb (c := fun r : Rn => r.cells.toList) (sz := 2) (fun _ => rfl) (by decide) (am.out _ hW) Hr.out;injection e2 with e2; rw [e2]; exact h2
    have hq := Yl r.kind r.value r.kind r.value;rw [show (!(r.kind == r.kind && r.value == r.value)) = false from by simp] at hq;have Hq := Lh hq;clear hr hq;go_wp2_with fail
    refine ZA S5 (by kernel_rfl) (by kernel_rfl) (St.drew s.out) ?_
    iterate 3 (refine Qf rfl ?_ (fun W hW => ?_) ?_; rotate_left; (focus (go_simp; exact rfl)); simp only [Act.put, Qa, Qb, Qc])
    (refine ZJ rfl 37 _ rfl ((a3.add (k * 2))) rfl (X0 r.kind r.value) _ (fun W hW => bk.out W hW) Tryz.underlying37 rfl (by kernel_rfl) ?_; simp only [Act.put, Qa, Qb, Qc])
    iterate 3 (refine Qf rfl ?_ (fun W hW => ?_) ?_; rotate_left; (focus (go_simp; exact rfl)); simp only [Act.put, Qa, Qb, Qc])
    (refine ZJ rfl 37 _ rfl ((a4.add (k * 2))) rfl (X0 r.kind r.value) _ (fun W hW => bl.out W hW) Tryz.underlying37 rfl (by kernel_rfl) ?_; simp only [Act.put, Qa, Qb, Qc]);refine Qf rfl (.bool false) (fun W _ => Jz rfl _ (run_eqGuard_agg _ _ _ _ _ _ _ (by kernel_rfl)) (Hq.out W)) ?_;simp only [Act.put, Qa, Qb, Qc];refine QG fun W9 ah => ?_
    clear s;have s : Hid (S5 W9) := ah;clear ah;go_wp2_with fail
    go_roundw
    case rel => exact ⟨k + 1, by go_num, by omega, s.out⟩
    case measure => simp [intOf]; omega
  · obtain rfl : k = n := by omega
    obtain ⟨tz, bh⟩ : ∃ z, z = QZ ⟨a.k, a.v, []⟩ ⟨b.k, b.v, []⟩ := ⟨_, rfl⟩;have a1 := Lh bh;clear bh a9 hk;go_wp2_with fail
    refine ZA S5 (by kernel_rfl) (by kernel_rfl) (St.drew s.out) ?_
    iterate 2 (refine Qf rfl ?_ (fun W hW => ?_) ?_; rotate_left; (focus (go_simp; exact rfl)); simp only [Act.put, Qa, Qb, Qc])
    (refine QD rfl 37 _ rfl (ai) rfl 37 _ _ (fun W hW => (au.out _ (D2.out _ (D3.out _ (D4.out _ (D5.out _ hW)))))) Tryz.underlying37 rfl (by kernel_rfl) ?_; simp only [Act.put, Qa, Qb, Qc]);(refine QD rfl 37 _ rfl (aj) rfl 37 _ _ (fun W hW => (av.out _ (D3.out _ (D4.out _ (D5.out _ hW))))) Tryz.underlying37 rfl (by kernel_rfl) ?_; simp only [Act.put, Qa, Qb, Qc]);(refine QB rfl 27 _ (fun W => by (go_simp; try rfl)) (.int .i64 tz) (fun W hW => by rw [a1.out]; exact U5 ⟨a.k, a.v, []⟩ ⟨b.k, b.v, []⟩ W) ?_; simp only [Act.put, Qa, Qb, Qc])
    (refine QD rfl 37 _ rfl (ai) rfl 37 _ _ (fun W hW => (au.out _ (D2.out _ (D3.out _ (D4.out _ (D5.out _ hW)))))) Tryz.underlying37 rfl (by kernel_rfl) ?_; simp only [Act.put, Qa, Qb, Qc]);(refine QD rfl 37 _ rfl (aj) rfl 37 _ _ (fun W hW => (av.out _ (D3.out _ (D4.out _ (D5.out _ hW))))) Tryz.underlying37 rfl (by kernel_rfl) ?_; simp only [Act.put, Qa, Qb, Qc]);(refine QB rfl 28 _ (fun W => by (go_simp; try rfl)) (.int .i64 tz) (fun W hW => by rw [a1.out]; exact AbR ⟨a.k, a.v, []⟩ ⟨b.k, b.v, []⟩ W) ?_; simp only [Act.put, Qa, Qb, Qc])
    (refine Qf rfl (.bool true) (fun W hW => by (go_simp; try simp)) ?_; simp only [Act.put, Qa, Qb, Qc])
    iterate 2 (refine Qf rfl ?_ (fun W hW => ?_) ?_; rotate_left; (focus (go_simp; exact rfl)); simp only [Act.put, Qa, Qb, Qc])
    refine QG fun W9 ah => ?_
    clear s;have s : Hid (S5 W9) := ah;clear ah;go_wp2_with fail
    go_ret
    exact ⟨rfl, (ad.out _ (D1.out _ (D2.out _ (D3.out _ (D4.out _ (D5.out _ s.out))))))⟩
end Go.Proofs.YtdcmppdhdcjpfaaGreat
