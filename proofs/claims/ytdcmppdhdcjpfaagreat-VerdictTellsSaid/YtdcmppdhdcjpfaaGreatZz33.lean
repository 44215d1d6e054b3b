/- Lemmas for VerdictTellsP. -/
import Derived.Test.YtdcmppdhdcjpfaaGreatZz1
import Derived.Test.YtdcmppdhdcjpfaaGreatZz32
import Derived.Test.YtdcmppdhdcjpfaaGreatZz9
import Derived.Laws.Tables
set_option linter.unusedVariables false
set_option linter.unusedSimpArgs false
set_option maxRecDepth 100000
set_option maxHeartbeats 16000000
namespace Go.Proofs.YtdcmppdhdcjpfaaGreat
open Go.RowKit Go.Deep
def JC (p : PgV) (vv av : Value) (F : Int) : Array Value :=
 #[.int .i64 p.params, .slice p.va p.V.length p.vcap, .slice p.ba p.body.length p.bcap, vv, av, .int .i64 F, .int .i64 0, .slice none 0 0, .int .i64 0, .int .i64 0, .bool false]
structure RK2 (p : PgV) (M Bk : Nat) (F : Int) (args : List Int) (W1 : World) (k : Nat) (W : World) : Prop where
 ex : ∃ vv av gs, Row W M 201 (JC p vv av F) ∧ gs.length = k ∧ W.ownsRow Bk 3 1 vv k (Qi ((Z5 p.V args).take k)) ∧ W.ownsRow Bk 22 1 av k (asL gs p.V) ∧ (∀ (i g : Nat) (t : Int), gs[i]? = some g → p.V[i]? = some t → Row W g 3 (Qi (List.replicate (Qx t).toNat 0)).toArray) ∧ (∀ g ∈ gs, Bk ≤ g) ∧ gs.Nodup ∧ (∀ g ∈ gs, vv.ownBlock ≠ some g) ∧ ChM M Bk W1 W
structure RK3 (p : PgV) (M Bk : Nat) (F : Int) (vv av : Value) (args : List Int) (gs : List Nat) (W1 : World) (k : Nat) (W : World) : Prop where
 row : Row W M 201 (JC p vv av F)
 vv : W.ownsRow Bk 3 1 vv (k + 1) (Qi ((Z5 p.V args).take (k + 1)))
 av : W.ownsRow Bk 22 1 av k (asL gs p.V)
 rows : ∀ (i g : Nat) (t : Int), gs[i]? = some g → p.V[i]? = some t → Row W g 3 (Qi (List.replicate (Qx t).toNat 0)).toArray
 ch : ChM M Bk W1 W
 size : Bk ≤ W.heap.size
theorem RK3.go {p : PgV} {M Bk : Nat} {F : Int} {vv av : Value} {args : List Int} {gs : List Nat} {W1 : World} {k : Nat} {A A' : World} (h : RK3 p M Bk F vv av args gs W1 k A) (b : Below A.heap.size A A') : RK3 p M Bk F vv av args gs W1 k A' :=
 ⟨h.row.below b h.row.lt, Qz h.vv b, Qz h.av b, fun i g t h1 h2 => (h.rows i g t h1 h2).below b (h.rows i g t h1 h2).lt, h.ch.trans (.below (b.mono h.size)), Li h.size b.size⟩
theorem Adc {p : PgV} {t : Tr} {w : World} (hok : p.ok w) (hg : Good p t) : okO p.V t := by
 refine ⟨hg.hat.fits, by rw [hg.kind]; omega, fun x c => ?_⟩;obtain ⟨r, b⟩ := hg.hat.here;rw [L8] at b;exact (hok.bin x (by rw [b]; exact List.mem_append_left _ c)).2
theorem Acj {p : PgV} {t : Tr} {w : World} {args : List Int} {F : Nat} (hok : p.ok w) (hg : Good p t) (hv : JN p.params p.V) (hl : (args.length : Int) = p.params) (hin : ∀ a ∈ args, InI a) : OkS p.V (ZH p.V args F) := by
 refine ⟨by simp [ZH, Z5], by simp [ZH, VN], fun i t v d b => ?_, fun i t a d b => ?_, fun e g => by simp [ZH] at g, fun k v h => by simp [ZH] at h, by have := hv.2.2.1; omega⟩
 · have c : i < p.V.length := (Lb.1 d).1;simp only [ZH, Z5, LA, List.getElem?_range c, Np, LX] at b;subst b;by_cases hi : i < args.length
   · have e : args.getD i 0 = args[i] := by simp [List.getD, La hi]
     refine ⟨by rw [e]; exact hin _ (List.getElem_mem _), fun l => ?_⟩;have := hv.2.2.2 i c;rw [LQ, d, LN] at this;simp only [K7, decide_eq_true_eq] at this;omega
   · have e : args.getD i 0 = 0 := by simp [List.getD, LW (show args.length ≤ i by omega)]
     rw [e];exact ⟨Je, fun _ => .inl rfl⟩
 · simp only [ZH, VN, LA, d, Np, LX] at b;subst b;refine ⟨?_, fun x j => ?_⟩
   · rw [Nq]; unfold Qx; split <;> omega
   · rw [(List.mem_replicate.1 j).2]; exact Je
theorem RChg.new {L : Lay} {B : Nat} {W W' : World} {ev' : Value} (h : RChg L (.slice none 0 0) W ev' W') (n : LNew B L) (hB : B ≤ W.heap.size) : Below B W W' :=
 ⟨h.os, h.tape, h.output, h.size, fun k hk => h.block k (by omega) (by have := n.m; omega) (fun e => by have := n.vv k e; omega) (fun e => by have := n.ab k e; omega) (by simp [Value.ownBlock])⟩
theorem Ajj {L : Lay} {s : Ms} {ev : Value} {W : World} (h : RR L s ev W) (j : Nat) (v : Value) (hj : ([.int .i64 (s.out.getD (0, 0)).1, .int .i64 (s.out.getD (0, 0)).2] : List Value)[j]? = some v) : W.cell? ((⟨L.M, 8, none⟩ : Addr).add j) = some v := by
 match j, hj with
 | 0, hj => injection hj with hj; subst hj; exact h.row.cellv (i := 8) rfl
 | 1, hj => injection hj with hj; subst hj; exact h.row.cellv (i := 9) rfl
 | j + 2, hj => cases hj
theorem AfC (a b c : Int) (ev : Value) (h : ev.oneCell' = true) (W : World) : (Instr.build 40 #[(0, .agg #[.int .i64 a, .int .i64 b]), (1, .int .i64 c), (2, ev)]).run Tryz.prog W = .ok (.agg #[.int .i64 a, .int .i64 b, .int .i64 c, ev]) W :=
 run_build W _ _ _ (by cases ev <;> first | (cases h; done) | kernel_rfl)
structure Kept (L : Lay) (W : World) (g : Nat) (t : TypeId) (cs : Array Value) : Prop where
 row : Row W g t cs
 m : g ≠ L.M
 vv : L.vv.ownBlock ≠ some g
 ab : g ∉ L.ab
theorem Kept.go {L : Lay} {W W' : World} {g : Nat} {t : TypeId} {cs : Array Value} {ev' : Value} (h : Kept L W g t cs) (c : RChg L (.slice none 0 0) W ev' W') : Row W' g t cs :=
 (c.block g h.row.lt h.m h.vv h.ab (by simp [Value.ownBlock])).trans h.row
theorem Agf {p : PgV} {args : List Int} {fuel : Int} {w W1 W : World} {M Bk RB : Nat} {cs : Array Value} (hbl : p.body.length ≤ 1000) (hok : p.ok w) (hf : 0 ≤ fuel ∧ fuel ≤ 10000)
 (hMw : w.heap.size ≤ M) (hMB : M < Bk) (hBk : Bk = W1.heap.size) (b1 : Below w.heap.size w W1) (hK : RK2 p M Bk fuel args W1 p.V.length W) (hRB : Row W1 RB 40 cs) (hRBM : RB < M) :
 ∃ L : Lay, L.M = M ∧ L.p = p ∧ L.F = fuel.toNat ∧ ROk L ∧ RR L (ZH p.V args fuel.toNat) (.slice none 0 0) W ∧ LNew w.heap.size L ∧ Kept L W RB 40 cs := by
 obtain ⟨vv, av, gs, r, n, m, d, k, v, af, ag, u⟩ := hK.ex;have aj := b1.size;have ak : Bk ≤ W.heap.size := by have := u.size; omega
 have z : M < W.heap.size := r.lt
 have t : ∀ g ∈ gs, ∃ cs, Row W g 3 cs := by
  intro g ae;obtain ⟨i, j, hi⟩ := LR ae;exact ⟨_, k i g _ (by rw [La j, hi]) (La (by omega))⟩
 have ab : ∀ g ∈ gs, g < W.heap.size := fun g b => by obtain ⟨cs, hr⟩ := t g b; exact hr.lt
 have bW : Below w.heap.size w W := b1.trans (u.to_below (by omega) hMw);obtain ⟨aa, y, q, _⟩ := Kg d;let L : Lay := ⟨p, M, none, 0, vv, aa, y, gs, 0, fuel.toNat, w.heap.size, W.heap.size, fun X => Below w.heap.size w X ∧ X.ownsRow Bk 22 1 av p.V.length (asL gs p.V)⟩;have l : ∀ g, vv.ownBlock = some g → Bk ≤ g := fun g e => QH m e
 have s : LNew w.heap.size L := ⟨hMw, by show _ ≤ W.heap.size; omega, fun g e => by have := l g e; omega, fun g b => by have := v g b; omega⟩
 have hL : ROk L := by
  refine ⟨⟨fun X X' h c => ⟨h.1.trans (c.new s), VC h.2 c (fun g e => ?_)⟩, z, fun g e => ⟨KG m e, by have := l g e; show g ≠ M; omega, fun b => ag g b e⟩, fun g b => ⟨ab g b, by have := v g b; show g ≠ M; omega⟩, af, by show fuel.toNat ≤ 20000; omega, hbl, by show w.heap.size ≤ M; omega, by show w.heap.size ≤ W.heap.size; omega⟩, fun X h => hok.go h.1, fun X h i g b => ?_, n⟩
  · refine ⟨KG d e, by have := QH d e; show g ≠ M; omega, fun e2 => ?_, fun b => ?_⟩
    · rcases QX m d (by decide) with h0 | h0
      · rw [h0] at e; cases e
      · exact h0 (e2.trans e.symm)
    · obtain ⟨cs, hr⟩ := t g b;exact QC d hr (by decide) e
  · obtain ⟨ai, c', o, ah⟩ := Kg h.2;rw [q] at o;injection o with e1 e2 e3;subst e1;have j : i < p.V.length := by have := (Lb.1 b).1; rw [← n]; exact this
    have ht := La j;obtain ⟨ad, ac, hc⟩ := ah i _ (AeX b ht);exact ⟨ad, _, ac, ht, hc⟩
 refine ⟨L, rfl, rfl, rfl, hL, ⟨?_, World.ownsRow_nil _ _ _ _, ?_, ?_, fun x hx => by simp at hx, List.Pairwise.nil, ⟨bW, d⟩, Nat.le_refl _, LI _, Nat.le_refl _⟩, s, hRB.chm u (by omega) (by omega), by show RB ≠ M; omega, fun e => by have := l _ e; omega, fun b => by have := v _ b; omega⟩
 · have hF : ((fuel.toNat : Nat) : Int) = fuel := by omega
   have e : L.rcells (ZH p.V args fuel.toNat) (.slice none 0 0) = JC p vv av fuel := by
    rw [q];unfold Lay.rcells JC;simp only [L, n, ZH, hF];rfl
   rw [e]; exact r
 · have hl : (Z5 p.V args).length = p.V.length := by simp [Z5]
   rw [L1 (by omega)] at m;have := QK m (base' := w.heap.size) (by omega);show W.ownsRow w.heap.size 3 1 vv (Z5 p.V args).length (Qi (Z5 p.V args));rw [hl]; exact this
 · intro i g a b ha;have j : i < p.V.length := by have := (Lb.1 b).1; rw [← n]; exact this
   have ht := La j;have := k i g _ b ht;simp only [ZH, VN, LA, ht, Np, LX] at ha;rw [← ha]; exact this
theorem AdN {P : Program} {md : Region.Mode} {o : Array Oper} {Q : Exit → Act → World → Prop} {S : World → Prop} {n : Nat} {L : Array Bool} {a : Act} {W : World} {G : Prop}
 (main : (wpAnyH P md o Q S n L a W) → G) (tail : wpAnyH P md o Q S n L a W) : G := main tail
theorem Ahn (p : PgV) (t : Tr) (aa : Option Addr) (acap : Nat) (args : List Int) (fuel v : Int) (s' : Ms) (w : World) (hbl : p.body.length ≤ 1000) (hn : args.length ≤ 1000) (hok : p.ok w) (hra : Rd w aa (Qi args)) (hin : ∀ a ∈ args, InI a) (hg : Good p t)
 (hc : Zd p args.length fuel = 0) (hbig : Big (.one t) (ZH p.V args fuel.toNat) v s') :
 Calls Tryz.prog 72 #[.agg p.cells, .slice aa args.length acap, .int .i64 fuel] w fun e w' => RunR ⟨s'.stopped 3 0, []⟩ w w' e := by
 obtain ⟨_, _, ck, hf⟩ := Kt hc;have a6 := Lh hok;have c2 := Lh hbl;have dv := Lh hra;have du := Lh hin;have Hg := Lh hg;have Hc := Lh hc;have c1 := Lh hbig;have cp := Lh hg.vars;have c5 := Lh ck;have Hf := Lh hf;have Hn := Lh hn;have d6 : p.V.length ≤ 12 := hg.vars.2.2.1;clear hok hbl hra ck hf hn hc hg hin hbig;go_enter Tryz.func72, Tryz.ntmps72
 go_wp2_with (refine Qn _ _ rfl ?_)
 refine Stop.to ?_;refine Qe rfl 25 _ rfl p.cells rfl ?_;intro G w1 hG r1 b1;replace b1 := (Below.refl w.heap.size w).trans (b1.mono hG);go_wp2_with (refine QT _ rfl ?_)
 refine Stop.to ?_;refine Qm rfl 40 rfl _ _ KY rfl ?_;intro RB w2 a9 rB b2;replace r1 := r1.below (b2.mono a9) r1.lt;have dc : w.heap.size ≤ RB := Li b1.size a9;replace b2 := b1.trans ((b2.mono a9).mono b1.size);have R1 := Lh r1;have cr := Lh rB;have B2 := Lh b2;clear r1 b1 b2 rB a9 hG w1;go_wp2_with (refine wpList_load_row rfl 25 _ rfl G rfl 25 p.cells (0, 0) _ R1.out Tryz.underlying25 rfl (by kernel_rfl) ?_)
 refine (Up p aa acap args.length fuel c2.out Hn.out w2 (a6.out.go B2.out)).mono ?_;rintro e w3 ⟨rfl, b3⟩;rw [Hc.out];have R3 := Lh (R1.out.below b3 R1.out.lt);have cb := Lh (cr.out.below b3 cr.out.lt);have B3 := Lh (B2.out.trans (b3.mono B2.out.size));clear b3 R1 cr B2
 go_wp2_with (first
  | (refine wpList_load_row rfl 25 _ rfl G rfl 25 p.cells (0, 0) _ R3.out Tryz.underlying25 rfl (by kernel_rfl) ?_)
  | (refine Agx 201 _ rfl ?_))
 refine Stop.to ?_;have cj : ∀ W, (Instr.build 201 #[(0, .agg p.cells), (3, .int .i64 fuel)]).run Tryz.prog W = .ok (.agg (JC p (.slice none 0 0) (.slice none 0 0) fuel)) W := fun W => run_build W _ _ _ (by kernel_rfl);refine Y2 rfl (.agg (JC p (.slice none 0 0) (.slice none 0 0) fuel)) (J6 201 [_, _] rfl _ (by exact cj _)) ?_;clear cj;go_wp2_with (refine Qn _ _ rfl ?_)
 refine Stop.to ?_;refine Qe rfl 201 _ rfl (JC p (.slice none 0 0) (.slice none 0 0) fuel) rfl ?_;intro M W1 hM rM b4;have cc : w.heap.size ≤ M := Li B3.out.size hM;have d5 : G < M := Ld R3.out.lt hM;have db : RB < M := Ld cb.out.lt hM;have G1 := Lh (R3.out.below (b4.mono hM) R3.out.lt);have dw := Lh (cb.out.below (b4.mono hM) cb.out.lt);have B1 := Lh (B3.out.trans ((b4.mono hM).mono B3.out.size));have R1 := Lh rM;obtain ⟨s, cw⟩ : ∃ s, s = W1.heap.size := ⟨_, rfl⟩;have dz : M < s := by rw [cw]; exact R1.out.lt
 have bh := Lh cw;clear cw b4 rM hM R3 cb B3;go_wp2_with fail
 go_loopw [10, 11] (fun i _ W => ∃ (k : Nat), i = .int .i64 (k : Int) ∧ k ≤ p.V.length ∧ Hid (RK2 p M s fuel args W1 k W)) (fun i _ _ => p.V.length - (intOf i).toNat)
 case atStart => exact ⟨0, rfl, Nat.zero_le _, Lh ⟨.slice none 0 0, .slice none 0 0, [], R1.out, rfl, by simpa [Qi] using World.ownsRow_nil W1 s 3 1, by simpa [asL] using World.ownsRow_nil W1 s 22 1, fun i g t h => by simp at h, fun g h => by simp at h, List.nodup_nil, fun g h => by simp at h, ChM.refl _ _ _⟩⟩
 case round =>
  obtain ⟨k, rfl, hk, hK⟩ := hrel;by_cases cd : k < p.V.length
  · obtain ⟨vv, av, gs, r, be, ds, dd, bu, di, dm, dn, aq⟩ := hK.out;obtain ⟨t, ht⟩ : ∃ t, p.V[k]? = some t := ⟨_, La cd⟩;have cx : Below w.heap.size w wr := B1.out.trans (aq.to_below (by have := B1.out.size; have := bh.out; omega) cc);obtain ⟨vd, cz, cv⟩ := QR (a6.out.go cx).vrd ht;have cl : s ≤ wr.heap.size := by have := aq.size; have := bh.out; omega
    have cf : InI t := a6.out.vin t (Lf ht);obtain ⟨J, ap⟩ : ∃ J, J = (fun W => Row W M 201 (JC p vv av fuel) ∧ W.ownsRow s 3 1 vv k (Qi ((Z5 p.V args).take k)) ∧ W.ownsRow s 22 1 av k (asL gs p.V) ∧ (∀ (i g : Nat) (t : Int), gs[i]? = some g → p.V[i]? = some t → Row W g 3 (Qi (List.replicate (Qx t).toNat 0)).toArray) ∧ ChM M s W1 W ∧ s ≤ W.heap.size) := ⟨_, rfl⟩
    have cg : St J := by
     rw [ap];exact ⟨fun {A A'} h b => ⟨h.1.below b h.1.lt, Qz h.2.1 b, Qz h.2.2.1 b, fun i g t o y => (h.2.2.2.1 i g t o y).below b (h.2.2.2.1 i g t o y).lt, h.2.2.2.2.1.trans (.below (b.mono h.2.2.2.2.2)), Li h.2.2.2.2.2 b.size⟩⟩
    have hJ : J wr := by rw [ap]; exact ⟨r, ds, dd, bu, aq, cl⟩
    have J0 : Hid (∀ W, J W → Row W M 201 (JC p vv av fuel)) := by show ∀ W, _; rw [ap]; exact fun W h => h.1
    have J1 : Hid (∀ W, J W → W.ownsRow s 3 1 vv k (Qi ((Z5 p.V args).take k))) := by show ∀ W, _; rw [ap]; exact fun W h => h.2.1
    have J2 : Hid (∀ W, J W → W.ownsRow s 22 1 av k (asL gs p.V)) := by show ∀ W, _; rw [ap]; exact fun W h => h.2.2.1
    have J3 : Hid (∀ W, J W → ∀ (i g : Nat) (t : Int), gs[i]? = some g → p.V[i]? = some t → Row W g 3 (Qi (List.replicate (Qx t).toNat 0)).toArray) := by show ∀ W, _; rw [ap]; exact fun W h => h.2.2.2.1
    have J4 : Hid (∀ W, J W → ChM M s W1 W) := by show ∀ W, _; rw [ap]; exact fun W h => h.2.2.2.2.1
    have J5 : Hid (∀ W, J W → s ≤ W.heap.size) := by show ∀ W, _; rw [ap]; exact fun W h => h.2.2.2.2.2
    have cG : wr.cell? ⟨G, 1, none⟩ = some (.slice (some vd) p.V.length p.vcap) := by rw [← cz]; exact (G1.out.chm aq (by omega) (by omega)).cellv (i := 1) rfl
    obtain ⟨S, ai⟩ : ∃ S, S = (fun W => ChM M s W1 W) := ⟨_, rfl⟩;have S0 : Hid (∀ W, S W → W.cell? ⟨G, 1, none⟩ = some (.slice (some vd) p.V.length p.vcap)) := by show ∀ W, _; rw [ai]; intro W h; rw [← cz]; exact (G1.out.chm h (by omega) (by omega)).cellv (i := 1) rfl
    have S1 : Hid (∀ W, S W → W.cell? (vd.add k) = some (.int .i64 t)) := by
     show ∀ W, _; rw [ai]; intro W h;have hB : Below w.heap.size w W := B1.out.trans (h.to_below (by have := B1.out.size; have := bh.out; omega) cc);obtain ⟨d9, cm, dx⟩ := QR (a6.out.go hB).vrd ht;rw [cz] at cm;injection cm with e;rw [e]; exact dx
    have z : Hid (∀ W, ChM M s W1 W → S W) := by show ∀ W, _; rw [ai]; exact fun W h => h
    have d7 : (k : Int) < (p.V.length : Int) := by omega
    have bd := Lh be;have bc := Lh di;have c6 := Lh dm;have b9 := Lh dn;have Ht := Lh ht;obtain ⟨i0, ax, a2, a3, a4⟩ := info_parts UP;have c4 := r.cellv (i := 3) (v := vv) rfl;have hra := dv.out.go (cx.mono (Nat.le_refl _));clear ai ap r ds dd bu aq cl hK be di dm dn ht cx;by_cases dj : k < args.length
    · obtain ⟨ad, d1, ca⟩ := QR hra (La dj);have dh : decide ((k : Int) < (args.length : Int)) = true := by simp; omega
      have hx : args.getD k 0 = args[k] := by simp [List.getD, La dj]
      rw [← hx] at ca;obtain ⟨xk, c0⟩ : ∃ xk, args.getD k 0 = xk := ⟨_, rfl⟩;rw [c0] at ca;have cq := Lh c0;clear hx c0;rw [d1];go_wp2_with (at_builtin; refine Vv ?_)
      refine Stop.to ?_;refine (wpList_append_own_at _ rfl (.tmp 43) (.tmp 45) 22 rfl s 3 i0 (.int .i64 0) 1 8 Tryz.underlying22 ax a2 a3 a4 rfl (by decide) vv k _ rfl (Qz (J1.out _ hJ) ((Below.refl _ _).alloc (Nat.le_refl _) _)) ⟨wr.heap.size, 0, none⟩ 1 1 [.int .i64 xk] rfl rfl (cell_one_new _ _ _) (by simp [Value.oneCell']) (by unfold maxLen; omega) (by omega) (by have := J5.out _ hJ; simp; omega) ?_);intro q W2 a1 hg _ hat;have l : J (wr.alloc (.cells #[.int .i64 xk] 3)) := cg.go hJ ((Below.refl _ _).alloc (Nat.le_refl _) _);have bz := (J0.out _ l).grown hg (QC (J1.out _ l) (J0.out _ l) (by decide));have bm := QY (J2.out _ l) hg (QX (J2.out _ l) (J1.out _ l) (by decide));have ak : ∀ (i g : Nat) (t : Int), gs[i]? = some g → p.V[i]? = some t → Row W2 g 3 (Qi (List.replicate (Qx t).toNat 0)).toArray := fun i g t o y => (J3.out _ l i g t o y).grown hg (b9.out g (Lf o));have bn := (J4.out _ l).trans (.grown hg (J5.out _ l) (fun k e => QH (J1.out _ l) e));have b5 : s ≤ W2.heap.size := Li (J5.out _ l) hg.size
      have ay : ∀ g ∈ gs, q.ownBlock ≠ some g := by
       intro g ar;rcases hat with e | e
       · rw [e]; exact b9.out g ar
       · obtain ⟨i, ba, hi⟩ := LR ar;have o : gs[i]? = some g := by rw [La ba, hi]
         have y : p.V[i]? = some (p.V[i]'(by have := bd.out; omega)) := La _;have := (J3.out _ l i g _ o y).lt;rw [e];intro e3;injection e3 with e3;omega
      have ab : W2.ownsRow s 3 1 q (k + 1) (Qi ((Z5 p.V args).take (k + 1))) := by rw [X7 cd, cq.out]; simpa [Qi] using a1
      have az := ZU ab;have bl := Lh bz;have bf := Lh bm;have ah := Lh ak;have bg := Lh bn;have bj := Lh ay;have ag := Lh ab;clear bz bm ak bn ay ab a1 hg hat l hJ c4 hra cv;go_wp2_with (refine Qv _ _ _ rfl ?_)
      refine Stop.to ?_;refine Qs rfl 22 _ _ rfl M 3 rfl _ rfl [q] (by cases q <;> first | rfl | cases az) 201 _ (JC p q av fuel) bl.out (by kernel_rfl) (by show 3 + 1 ≤ 11; omega) (by simpa using az) rfl ?_
      intro W3 r3 o3
      have k3 : RK3 p M s fuel q av args gs W1 k W3 := by
       have ne : ∀ {e : TypeId} {u : Value} {n : Nat} {xs : List Value}, W2.ownsRow s e 1 u n xs → W3.ownsRow s e 1 u n xs := fun h => QA h o3 (fun e => by have := QH h e; omega)
       exact ⟨r3, ne ag.out, ne bf.out, fun i g t o y => (ah.out i g t o y).only o3 (by have := bc.out g (Lf o); omega), bg.out.trans (.only o3), by rw [o3.size]; exact b5⟩
      have bw : RK3 p M s fuel q av args gs W1 k W3.drew := k3.go ⟨rfl, rfl, rfl, Nat.le_refl _, fun _ _ => rfl⟩;have KE := Lh bw;clear r3 o3 k3 bw bl bf ah bg ag b5 J0 J1 J2 J3 J4 J5 cg J ax a2 a3 a4 i0;obtain ⟨i0, ax, a2, a3, a4⟩ := info_parts AbC;obtain ⟨n, hn⟩ : ∃ n : Nat, Qx t = (n : Int) := ⟨(Qx t).toNat, by unfold Qx; split <;> omega⟩
      have d2 : n ≤ 8 := by unfold Qx at hn; split at hn <;> omega
      have bt : ∀ W : World, (Instr.makeSlice 22 (.int .i64 (n : Int)) (.int .i64 (n : Int))).run Tryz.prog W = .ok (.slice (some ⟨W.heap.size, 0, none⟩) n n) (W.alloc (.cells (Qi (List.replicate n 0)).toArray 3)) := fun W => by
       have := run_make_row' (P := Tryz.prog) (w := W) 22 3 (.int .i64 0) 8 Tryz.underlying22 Z7 rfl .i64 .i64 n (by omega) (by omega);rw [show madeCells #[Value.int .i64 0] n = (Qi (List.replicate n 0)).toArray from by rw [JF]; simp [Qi]] at this;exact this
      have a5 := Lh bt;have an := Lh hn;clear bt hn;go_wp2_with fail
      refine wp_region_held (S := S) (by kernel_rfl) ?_;simp only [Lk, Lc, Lr, Nat.reduceAdd, Ll, Lm, Lu, Lp, Ln];show wpAnyH _ _ _ _ _ _ _ _ W3.drew;generalize W3.drew = we at KE ⊢;have bs : S we := z.out _ KE.out.ch;(refine tkH 0 (.pointer (some ⟨M, 0, none⟩)) rfl (Qd rfl (fun W x => by (go_simp))) ?_; simp only [Act.put, Qa, Qb, Qc]);(refine tkH 1 (.pointer (some ⟨M, 0, none⟩)) rfl (Qd rfl (fun W x => by (go_simp))) ?_; simp only [Act.put, Qa, Qb, Qc]);(refine tkH 2 (.pointer (some ⟨M, 0, none⟩)) rfl (Qd rfl (fun W x => by (go_simp))) ?_; simp only [Act.put, Qa, Qb, Qc]);(refine tkH 3 (.pointer (some ⟨M, 4, none⟩)) rfl (Qd rfl (fun W x => by (go_simp))) ?_; simp only [Act.put, Qa, Qb, Qc]);(refine tkH 5 (.pointer (some ⟨G, 1, none⟩)) rfl (Qd rfl (fun W x => by (go_simp))) ?_; simp only [Act.put, Qa, Qb, Qc]);(refine tkH 6 (.slice (some vd) p.V.length p.vcap) rfl (Qd rfl (fun W x => by ((have h := S0.out W x; go_simp)))) ?_; simp only [Act.put, Qa, Qb, Qc]);(refine tkH 7 (.int .i64 (k : Int)) rfl (Qd rfl (fun W x => by (go_simp))) ?_; simp only [Act.put, Qa, Qb, Qc]);(refine tkH 8 (.pointer (some (vd.add k))) rfl (Qd rfl (fun W x => by (go_simp))) ?_; simp only [Act.put, Qa, Qb, Qc]);(refine tkH 9 (.int .i64 t) rfl (Qd rfl (fun W x => by ((have h := S1.out W x; go_simp)))) ?_; simp only [Act.put, Qa, Qb, Qc]);apply AdN
      case main =>
       intro au;refine wpAnyH_all (rs := [4, 10]) (by kernel_rfl) (by simp) (fun i hi => ?_);have aj : i = 4 ∨ i = 10 := by simpa using hi
       rcases aj with rfl | rfl
       · refine Qg rfl rfl (fun K2 d => ?_);refine Qj av (w1 := we) (by have h := (KE.out).row.cellv (i := 4) (v := av) rfl; go_simp) ?_;refine d _ _ ?_;clear d K2;simp only [Act.put, Qa, Qb, Qc];refine ⟨z.out _ (KE.out).ch, ?_⟩;(refine wpAnyH_all (rs := [10]) (by kernel_rfl) (by simp) (fun i hi => ?_); obtain rfl : i = 10 := by simpa using hi);refine Qg rfl rfl (fun K2 d => ?_);refine Qt (w1 := we) 141 #[.int .i64 t] (by go_simp; try rfl) ?_
         refine (Jf t we cf).mono ?_;rintro e w4 ⟨rfl, rfl⟩;rw [an.out];refine ⟨_, rfl, d _ _ ?_⟩;clear d K2;simp only [Act.put, Qa, Qb, Qc];refine ⟨bs, ?_⟩;(refine wpAnyH_all (rs := [11]) (by kernel_rfl) (by simp) (fun i hi => ?_); obtain rfl : i = 11 := by simpa using hi);refine Qg rfl rfl (fun K2 d => ?_);refine Qj (.slice (some ⟨we.heap.size, 0, none⟩) n n) (QP rfl rfl rfl (a5.out we)) ?_;refine d _ _ ?_;clear d K2;have KM := KE.out.go (A' := we.alloc (.cells (Qi (List.replicate n 0)).toArray 3)) ((Below.refl _ _).alloc (Nat.le_refl _) _);simp only [Act.put, Qa, Qb, Qc];refine ⟨z.out _ KM.ch, ?_⟩;(refine wpAnyH_all (rs := [12]) (by kernel_rfl) (by simp) (fun i hi => ?_); obtain rfl : i = 12 := by simpa using hi);refine Qg rfl rfl (fun K2 d => ?_);refine Qj (.slice (some ⟨(we.alloc (.cells (Qi (List.replicate n 0)).toArray 3)).heap.size, 0, none⟩) 1 1) (w1 := (we.alloc (.cells (Qi (List.replicate n 0)).toArray 3)).alloc (.cells #[.slice (some ⟨we.heap.size, 0, none⟩) n n] 22)) (by go_simp; try rfl) ?_
         refine d _ _ ?_;clear d K2;have m := KM.go (A' := (we.alloc (.cells (Qi (List.replicate n 0)).toArray 3)).alloc (.cells #[.slice (some ⟨we.heap.size, 0, none⟩) n n] 22)) ((Below.refl _ _).alloc (Nat.le_refl _) _);simp only [Act.put, Qa, Qb, Qc];refine ⟨z.out _ m.ch, ?_⟩;exact au
       · refine Qg rfl rfl (fun K2 d => ?_);refine Qt (w1 := we) 141 #[.int .i64 t] (by go_simp; try rfl) ?_
         refine (Jf t we cf).mono ?_;rintro e w4 ⟨rfl, rfl⟩;rw [an.out];refine ⟨_, rfl, d _ _ ?_⟩;clear d K2;simp only [Act.put, Qa, Qb, Qc];refine ⟨bs, ?_⟩;refine wpAnyH_all (rs := [4, 11]) (by kernel_rfl) (by simp) (fun i hi => ?_);have aj : i = 4 ∨ i = 11 := by simpa using hi
         rcases aj with rfl | rfl
         · refine Qg rfl rfl (fun K2 d => ?_);refine Qj av (w1 := we) (by have h := (KE.out).row.cellv (i := 4) (v := av) rfl; go_simp) ?_;refine d _ _ ?_;clear d K2;simp only [Act.put, Qa, Qb, Qc];refine ⟨z.out _ (KE.out).ch, ?_⟩;(refine wpAnyH_all (rs := [11]) (by kernel_rfl) (by simp) (fun i hi => ?_); obtain rfl : i = 11 := by simpa using hi);refine Qg rfl rfl (fun K2 d => ?_);refine Qj (.slice (some ⟨we.heap.size, 0, none⟩) n n) (QP rfl rfl rfl (a5.out we)) ?_;refine d _ _ ?_;clear d K2;have KM := KE.out.go (A' := we.alloc (.cells (Qi (List.replicate n 0)).toArray 3)) ((Below.refl _ _).alloc (Nat.le_refl _) _);simp only [Act.put, Qa, Qb, Qc];refine ⟨z.out _ KM.ch, ?_⟩;(refine wpAnyH_all (rs := [12]) (by kernel_rfl) (by simp) (fun i hi => ?_); obtain rfl : i = 12 := by simpa using hi);refine Qg rfl rfl (fun K2 d => ?_);refine Qj (.slice (some ⟨(we.alloc (.cells (Qi (List.replicate n 0)).toArray 3)).heap.size, 0, none⟩) 1 1) (w1 := (we.alloc (.cells (Qi (List.replicate n 0)).toArray 3)).alloc (.cells #[.slice (some ⟨we.heap.size, 0, none⟩) n n] 22)) (by go_simp; try rfl) ?_
           refine d _ _ ?_;clear d K2;have m := KM.go (A' := (we.alloc (.cells (Qi (List.replicate n 0)).toArray 3)).alloc (.cells #[.slice (some ⟨we.heap.size, 0, none⟩) n n] 22)) ((Below.refl _ _).alloc (Nat.le_refl _) _);simp only [Act.put, Qa, Qb, Qc];refine ⟨z.out _ m.ch, ?_⟩;exact au
         · refine Qg rfl rfl (fun K2 d => ?_);refine Qj (.slice (some ⟨we.heap.size, 0, none⟩) n n) (QP rfl rfl rfl (a5.out we)) ?_;refine d _ _ ?_;clear d K2;have KM := KE.out.go (A' := we.alloc (.cells (Qi (List.replicate n 0)).toArray 3)) ((Below.refl _ _).alloc (Nat.le_refl _) _);simp only [Act.put, Qa, Qb, Qc];refine ⟨z.out _ KM.ch, ?_⟩;refine wpAnyH_all (rs := [4, 12]) (by kernel_rfl) (by simp) (fun i hi => ?_);have aj : i = 4 ∨ i = 12 := by simpa using hi
           rcases aj with rfl | rfl
           · refine Qg rfl rfl (fun K2 d => ?_);refine Qj av (w1 := (we.alloc (.cells (Qi (List.replicate n 0)).toArray 3))) (by have h := (KM).row.cellv (i := 4) (v := av) rfl; go_simp) ?_;refine d _ _ ?_;clear d K2;simp only [Act.put, Qa, Qb, Qc];refine ⟨z.out _ (KM).ch, ?_⟩;(refine wpAnyH_all (rs := [12]) (by kernel_rfl) (by simp) (fun i hi => ?_); obtain rfl : i = 12 := by simpa using hi);refine Qg rfl rfl (fun K2 d => ?_);refine Qj (.slice (some ⟨(we.alloc (.cells (Qi (List.replicate n 0)).toArray 3)).heap.size, 0, none⟩) 1 1) (w1 := (we.alloc (.cells (Qi (List.replicate n 0)).toArray 3)).alloc (.cells #[.slice (some ⟨we.heap.size, 0, none⟩) n n] 22)) (by go_simp; try rfl) ?_
             refine d _ _ ?_;clear d K2;have m := KM.go (A' := (we.alloc (.cells (Qi (List.replicate n 0)).toArray 3)).alloc (.cells #[.slice (some ⟨we.heap.size, 0, none⟩) n n] 22)) ((Below.refl _ _).alloc (Nat.le_refl _) _);simp only [Act.put, Qa, Qb, Qc];refine ⟨z.out _ m.ch, ?_⟩;exact au
           · refine Qg rfl rfl (fun K2 d => ?_);refine Qj (.slice (some ⟨(we.alloc (.cells (Qi (List.replicate n 0)).toArray 3)).heap.size, 0, none⟩) 1 1) (w1 := (we.alloc (.cells (Qi (List.replicate n 0)).toArray 3)).alloc (.cells #[.slice (some ⟨we.heap.size, 0, none⟩) n n] 22)) (by go_simp; try rfl) ?_
             refine d _ _ ?_;clear d K2;have m := KM.go (A' := (we.alloc (.cells (Qi (List.replicate n 0)).toArray 3)).alloc (.cells #[.slice (some ⟨we.heap.size, 0, none⟩) n n] 22)) ((Below.refl _ _).alloc (Nat.le_refl _) _);simp only [Act.put, Qa, Qb, Qc];refine ⟨z.out _ m.ch, ?_⟩;(refine wpAnyH_all (rs := [4]) (by kernel_rfl) (by simp) (fun i hi => ?_); obtain rfl : i = 4 := by simpa using hi);refine Qg rfl rfl (fun K2 d => ?_);refine Qj av (w1 := ((we.alloc (.cells (Qi (List.replicate n 0)).toArray 3)).alloc (.cells #[.slice (some ⟨we.heap.size, 0, none⟩) n n] 22))) (by have h := (m).row.cellv (i := 4) (v := av) rfl; go_simp) ?_;refine d _ _ ?_;clear d K2;simp only [Act.put, Qa, Qb, Qc];refine ⟨z.out _ (m).ch, ?_⟩;exact au
      case tail =>
       have KM := KE.out.go (A' := we.alloc (.cells (Qi (List.replicate n 0)).toArray 3)) ((Below.refl _ _).alloc (Nat.le_refl _) _);have m := KM.go (A' := (we.alloc (.cells (Qi (List.replicate n 0)).toArray 3)).alloc (.cells #[.slice (some ⟨we.heap.size, 0, none⟩) n n] 22)) ((Below.refl _ _).alloc (Nat.le_refl _) _);(refine wpAnyH_all (rs := [13]) (by kernel_rfl) (by simp) (fun i hi => ?_); obtain rfl : i = 13 := by simpa using hi);have bb : Row ((we.alloc (.cells (Qi (List.replicate n 0)).toArray 3)).alloc (.cells #[.slice (some ⟨we.heap.size, 0, none⟩) n n] 22)) we.heap.size 3 (Qi (List.replicate n 0)).toArray := (Row.new we _ _).alloc _;have gn := KE.out.size
       have bq : ∀ g ∈ gs, g < we.heap.size := by
        intro g ar;obtain ⟨i, ba, hi⟩ := LR ar;have o : gs[i]? = some g := by rw [La ba, hi]
        have y : p.V[i]? = some (p.V[i]'(by have := bd.out; omega)) := La _;exact (KE.out.rows i g _ o y).lt
       have b7 : q.ownBlock ≠ some we.heap.size := fun e => by have := KG KE.out.vv e; omega
       generalize bv : (we.alloc (.cells (Qi (List.replicate n 0)).toArray 3)).alloc (.cells #[.slice (some ⟨we.heap.size, 0, none⟩) n n] 22) = w8 at *;have bp : ∀ (j : Nat) (u : Value), [Value.slice (some ⟨we.heap.size, 0, none⟩) n n][j]? = some u → w8.cell? ((⟨(we.alloc (.cells (Qi (List.replicate n 0)).toArray 3)).heap.size, 0, none⟩ : Addr).add j) = some u := by rw [← bv]; exact cell_one_new _ _ _
       clear bv;refine Qg rfl rfl (fun K2 d => ?_);refine Zx (.tmp 53) (.tmp 61) 46 rfl s 22 i0 (.slice none 0 0) 1 24 Tryz.underlying46 ax a2 a3 a4 rfl (by decide) av k _ rfl m.av _ 1 1 [Value.slice (some ⟨we.heap.size, 0, none⟩) n n] rfl rfl bp (by simp [Value.oneCell']) (by unfold maxLen; omega) (by omega) m.size ?_;intro ao w9 ac ae _;refine d _ _ ?_;clear d K2;have br := m.row.grown ae (QC m.av m.row (by decide));have b6 := QY m.vv ae (QX m.vv m.av (by decide));have al : ∀ (i g : Nat) (t : Int), gs[i]? = some g → p.V[i]? = some t → Row w9 g 3 (Qi (List.replicate (Qx t).toNat 0)).toArray := fun i g t o y => (m.rows i g t o y).grown ae (QC m.av (m.rows i g t o y) (by decide));have b0 := bb.grown ae (QC m.av bb (by decide));have bo := m.ch.trans (.grown ae m.size (fun k e => QH m.av e));have a0 := ZU ac;have co := Lh br;have ct := Lh b6;have a7 := Lh al;have cs := Lh b0;have am := Lh bo;have bk := Lh ac;have cn := Lh bq;have cu := Lh b7;simp only [Act.put, Qa, Qb, Qc];refine ⟨z.out _ am.out, ?_⟩;have d0 : S w9 := z.out _ am.out;clear br b6 al b0 bo ac ae bb bp m KM KE bq b7;(refine tkH 14 (.pointer (some ⟨M, 0, none⟩)) rfl (Qd rfl (fun W x => by (go_simp))) ?_; simp only [Act.put, Qa, Qb, Qc]);(refine tkH 15 (.pointer (some ⟨M, 4, none⟩)) rfl (Qd rfl (fun W x => by (go_simp))) ?_; simp only [Act.put, Qa, Qb, Qc]);(refine wpAnyH_all (rs := [16]) (by kernel_rfl) (by simp) (fun i hi => ?_); obtain rfl : i = 16 := by simpa using hi);refine Qg rfl rfl (fun K2 d => ?_);refine ZM 46 (.tmp 64) (.tmp 62) rfl M 4 rfl _ rfl [ao] (by cases ao <;> first | rfl | cases a0) 201 _ (JC p q ao fuel) co.out (by kernel_rfl) (by show 4 + 1 ≤ 11; omega) (by simpa using a0) rfl ?_
       intro b8 bx af;refine d _ _ ?_;clear d K2;simp only [Act.put, Qa, Qb, Qc];refine ⟨z.out _ (am.out.trans (.only af)), ?_⟩;refine wpAnyH_done (by kernel_rfl) ?_ _
       have aw : RK2 p M s fuel args W1 (k + 1) b8 := by
        have ne : ∀ {e : TypeId} {u : Value} {n : Nat} {xs : List Value}, w9.ownsRow s e 1 u n xs → b8.ownsRow s e 1 u n xs := fun h => QA h af (fun e => by have := QH h e; omega)
        have be := bd.out;subst be;refine ⟨q, ao, gs ++ [we.heap.size], bx, by simp, ne ct.out, ?_, fun i g t' o y => ?_, fun g hg => ?_, ?_, fun g hg => ?_, am.out.trans (.only af)⟩
        · rw [Vu gs p.V we.heap.size t Ht.out, an.out, Lg]; exact ne bk.out
        · rcases LS i gs.length with hl | hl | hl
          · rw [Lw hl] at o;exact (a7.out i g t' o y).only af (by have := bc.out g (Lf o); omega)
          · subst hl;rw [Ls (Nat.le_refl _), Nn] at o;injection o with o;subst o;rw [Ht.out] at y;injection y with y;subst y;rw [an.out, Lg];exact cs.out.only af (by omega)
          · rw [Ls (by omega)] at o;have := (Lb.1 o).1;simp at this; omega
        · rcases Lz.1 hg with hg | hg
          · exact bc.out g hg
          · rw [Lo.1 hg]; exact gn
        · rw [List.nodup_append];refine ⟨c6.out, by simp, fun a ha b hb e => ?_⟩;rw [Lo.1 hb] at e;have := cn.out a ha;omega
        · rcases Lz.1 hg with hg | hg
          · exact bj.out g hg
          · rw [Lo.1 hg]; exact cu.out
       have bi := Lh aw;clear aw bx af;go_wp2_with fail
       go_roundw
       case rel => exact ⟨k + 1, by go_num, by omega, bi⟩
       case measure => simp [intOf]; omega
    · have dh : decide ((k : Int) < (args.length : Int)) = false := by simp; omega
      have hx : args.getD k 0 = 0 := by simp [List.getD, LW (show args.length ≤ k by omega)]
      have cq := Lh hx;clear hx;go_wp2_with (at_builtin; refine Vv ?_)
      refine Stop.to ?_;refine (wpList_append_own_at _ rfl (.tmp 43) (.tmp 45) 22 rfl s 3 i0 (.int .i64 0) 1 8 Tryz.underlying22 ax a2 a3 a4 rfl (by decide) vv k _ rfl (Qz (J1.out _ hJ) ((Below.refl _ _).alloc (Nat.le_refl _) _)) ⟨wr.heap.size, 0, none⟩ 1 1 [.int .i64 0] rfl rfl (cell_one_new _ _ _) (by simp [Value.oneCell']) (by unfold maxLen; omega) (by omega) (by have := J5.out _ hJ; simp; omega) ?_);intro q W2 a1 hg _ hat;have l : J (wr.alloc (.cells #[.int .i64 0] 3)) := cg.go hJ ((Below.refl _ _).alloc (Nat.le_refl _) _);have bz := (J0.out _ l).grown hg (QC (J1.out _ l) (J0.out _ l) (by decide));have bm := QY (J2.out _ l) hg (QX (J2.out _ l) (J1.out _ l) (by decide));have ak : ∀ (i g : Nat) (t : Int), gs[i]? = some g → p.V[i]? = some t → Row W2 g 3 (Qi (List.replicate (Qx t).toNat 0)).toArray := fun i g t o y => (J3.out _ l i g t o y).grown hg (b9.out g (Lf o));have bn := (J4.out _ l).trans (.grown hg (J5.out _ l) (fun k e => QH (J1.out _ l) e));have b5 : s ≤ W2.heap.size := Li (J5.out _ l) hg.size
      have ay : ∀ g ∈ gs, q.ownBlock ≠ some g := by
       intro g ar;rcases hat with e | e
       · rw [e]; exact b9.out g ar
       · obtain ⟨i, ba, hi⟩ := LR ar;have o : gs[i]? = some g := by rw [La ba, hi]
         have y : p.V[i]? = some (p.V[i]'(by have := bd.out; omega)) := La _;have := (J3.out _ l i g _ o y).lt;rw [e];intro e3;injection e3 with e3;omega
      have ab : W2.ownsRow s 3 1 q (k + 1) (Qi ((Z5 p.V args).take (k + 1))) := by rw [X7 cd, cq.out]; simpa [Qi] using a1
      have az := ZU ab;have bl := Lh bz;have bf := Lh bm;have ah := Lh ak;have bg := Lh bn;have bj := Lh ay;have ag := Lh ab;clear bz bm ak bn ay ab a1 hg hat l hJ c4 hra cv;go_wp2_with (refine Qv _ _ _ rfl ?_)
      refine Stop.to ?_;refine Qs rfl 22 _ _ rfl M 3 rfl _ rfl [q] (by cases q <;> first | rfl | cases az) 201 _ (JC p q av fuel) bl.out (by kernel_rfl) (by show 3 + 1 ≤ 11; omega) (by simpa using az) rfl ?_
      intro W3 r3 o3
      have k3 : RK3 p M s fuel q av args gs W1 k W3 := by
       have ne : ∀ {e : TypeId} {u : Value} {n : Nat} {xs : List Value}, W2.ownsRow s e 1 u n xs → W3.ownsRow s e 1 u n xs := fun h => QA h o3 (fun e => by have := QH h e; omega)
       exact ⟨r3, ne ag.out, ne bf.out, fun i g t o y => (ah.out i g t o y).only o3 (by have := bc.out g (Lf o); omega), bg.out.trans (.only o3), by rw [o3.size]; exact b5⟩
      have bw : RK3 p M s fuel q av args gs W1 k W3.drew := k3.go ⟨rfl, rfl, rfl, Nat.le_refl _, fun _ _ => rfl⟩;have KE := Lh bw;clear r3 o3 k3 bw bl bf ah bg ag b5 J0 J1 J2 J3 J4 J5 cg J ax a2 a3 a4 i0;obtain ⟨i0, ax, a2, a3, a4⟩ := info_parts AbC;obtain ⟨n, hn⟩ : ∃ n : Nat, Qx t = (n : Int) := ⟨(Qx t).toNat, by unfold Qx; split <;> omega⟩
      have d2 : n ≤ 8 := by unfold Qx at hn; split at hn <;> omega
      have bt : ∀ W : World, (Instr.makeSlice 22 (.int .i64 (n : Int)) (.int .i64 (n : Int))).run Tryz.prog W = .ok (.slice (some ⟨W.heap.size, 0, none⟩) n n) (W.alloc (.cells (Qi (List.replicate n 0)).toArray 3)) := fun W => by
       have := run_make_row' (P := Tryz.prog) (w := W) 22 3 (.int .i64 0) 8 Tryz.underlying22 Z7 rfl .i64 .i64 n (by omega) (by omega);rw [show madeCells #[Value.int .i64 0] n = (Qi (List.replicate n 0)).toArray from by rw [JF]; simp [Qi]] at this;exact this
      have a5 := Lh bt;have an := Lh hn;clear bt hn;go_wp2_with fail
      refine wp_region_held (S := S) (by kernel_rfl) ?_;simp only [Lk, Lc, Lr, Nat.reduceAdd, Ll, Lm, Lu, Lp, Ln];show wpAnyH _ _ _ _ _ _ _ _ W3.drew;generalize W3.drew = we at KE ⊢;have bs : S we := z.out _ KE.out.ch;(refine tkH 0 (.pointer (some ⟨M, 0, none⟩)) rfl (Qd rfl (fun W x => by (go_simp))) ?_; simp only [Act.put, Qa, Qb, Qc]);(refine tkH 1 (.pointer (some ⟨M, 0, none⟩)) rfl (Qd rfl (fun W x => by (go_simp))) ?_; simp only [Act.put, Qa, Qb, Qc]);(refine tkH 2 (.pointer (some ⟨M, 0, none⟩)) rfl (Qd rfl (fun W x => by (go_simp))) ?_; simp only [Act.put, Qa, Qb, Qc]);(refine tkH 3 (.pointer (some ⟨M, 4, none⟩)) rfl (Qd rfl (fun W x => by (go_simp))) ?_; simp only [Act.put, Qa, Qb, Qc]);(refine tkH 5 (.pointer (some ⟨G, 1, none⟩)) rfl (Qd rfl (fun W x => by (go_simp))) ?_; simp only [Act.put, Qa, Qb, Qc]);(refine tkH 6 (.slice (some vd) p.V.length p.vcap) rfl (Qd rfl (fun W x => by ((have h := S0.out W x; go_simp)))) ?_; simp only [Act.put, Qa, Qb, Qc]);(refine tkH 7 (.int .i64 (k : Int)) rfl (Qd rfl (fun W x => by (go_simp))) ?_; simp only [Act.put, Qa, Qb, Qc]);(refine tkH 8 (.pointer (some (vd.add k))) rfl (Qd rfl (fun W x => by (go_simp))) ?_; simp only [Act.put, Qa, Qb, Qc]);(refine tkH 9 (.int .i64 t) rfl (Qd rfl (fun W x => by ((have h := S1.out W x; go_simp)))) ?_; simp only [Act.put, Qa, Qb, Qc]);apply AdN
      case main =>
       intro au;refine wpAnyH_all (rs := [4, 10]) (by kernel_rfl) (by simp) (fun i hi => ?_);have aj : i = 4 ∨ i = 10 := by simpa using hi
       rcases aj with rfl | rfl
       · refine Qg rfl rfl (fun K2 d => ?_);refine Qj av (w1 := we) (by have h := (KE.out).row.cellv (i := 4) (v := av) rfl; go_simp) ?_;refine d _ _ ?_;clear d K2;simp only [Act.put, Qa, Qb, Qc];refine ⟨z.out _ (KE.out).ch, ?_⟩;(refine wpAnyH_all (rs := [10]) (by kernel_rfl) (by simp) (fun i hi => ?_); obtain rfl : i = 10 := by simpa using hi);refine Qg rfl rfl (fun K2 d => ?_);refine Qt (w1 := we) 141 #[.int .i64 t] (by go_simp; try rfl) ?_
         refine (Jf t we cf).mono ?_;rintro e w4 ⟨rfl, rfl⟩;rw [an.out];refine ⟨_, rfl, d _ _ ?_⟩;clear d K2;simp only [Act.put, Qa, Qb, Qc];refine ⟨bs, ?_⟩;(refine wpAnyH_all (rs := [11]) (by kernel_rfl) (by simp) (fun i hi => ?_); obtain rfl : i = 11 := by simpa using hi);refine Qg rfl rfl (fun K2 d => ?_);refine Qj (.slice (some ⟨we.heap.size, 0, none⟩) n n) (QP rfl rfl rfl (a5.out we)) ?_;refine d _ _ ?_;clear d K2;have KM := KE.out.go (A' := we.alloc (.cells (Qi (List.replicate n 0)).toArray 3)) ((Below.refl _ _).alloc (Nat.le_refl _) _);simp only [Act.put, Qa, Qb, Qc];refine ⟨z.out _ KM.ch, ?_⟩;(refine wpAnyH_all (rs := [12]) (by kernel_rfl) (by simp) (fun i hi => ?_); obtain rfl : i = 12 := by simpa using hi);refine Qg rfl rfl (fun K2 d => ?_);refine Qj (.slice (some ⟨(we.alloc (.cells (Qi (List.replicate n 0)).toArray 3)).heap.size, 0, none⟩) 1 1) (w1 := (we.alloc (.cells (Qi (List.replicate n 0)).toArray 3)).alloc (.cells #[.slice (some ⟨we.heap.size, 0, none⟩) n n] 22)) (by go_simp; try rfl) ?_
         refine d _ _ ?_;clear d K2;have m := KM.go (A' := (we.alloc (.cells (Qi (List.replicate n 0)).toArray 3)).alloc (.cells #[.slice (some ⟨we.heap.size, 0, none⟩) n n] 22)) ((Below.refl _ _).alloc (Nat.le_refl _) _);simp only [Act.put, Qa, Qb, Qc];refine ⟨z.out _ m.ch, ?_⟩;exact au
       · refine Qg rfl rfl (fun K2 d => ?_);refine Qt (w1 := we) 141 #[.int .i64 t] (by go_simp; try rfl) ?_
         refine (Jf t we cf).mono ?_;rintro e w4 ⟨rfl, rfl⟩;rw [an.out];refine ⟨_, rfl, d _ _ ?_⟩;clear d K2;simp only [Act.put, Qa, Qb, Qc];refine ⟨bs, ?_⟩;refine wpAnyH_all (rs := [4, 11]) (by kernel_rfl) (by simp) (fun i hi => ?_);have aj : i = 4 ∨ i = 11 := by simpa using hi
         rcases aj with rfl | rfl
         · refine Qg rfl rfl (fun K2 d => ?_);refine Qj av (w1 := we) (by have h := (KE.out).row.cellv (i := 4) (v := av) rfl; go_simp) ?_;refine d _ _ ?_;clear d K2;simp only [Act.put, Qa, Qb, Qc];refine ⟨z.out _ (KE.out).ch, ?_⟩;(refine wpAnyH_all (rs := [11]) (by kernel_rfl) (by simp) (fun i hi => ?_); obtain rfl : i = 11 := by simpa using hi);refine Qg rfl rfl (fun K2 d => ?_);refine Qj (.slice (some ⟨we.heap.size, 0, none⟩) n n) (QP rfl rfl rfl (a5.out we)) ?_;refine d _ _ ?_;clear d K2;have KM := KE.out.go (A' := we.alloc (.cells (Qi (List.replicate n 0)).toArray 3)) ((Below.refl _ _).alloc (Nat.le_refl _) _);simp only [Act.put, Qa, Qb, Qc];refine ⟨z.out _ KM.ch, ?_⟩;(refine wpAnyH_all (rs := [12]) (by kernel_rfl) (by simp) (fun i hi => ?_); obtain rfl : i = 12 := by simpa using hi);refine Qg rfl rfl (fun K2 d => ?_);refine Qj (.slice (some ⟨(we.alloc (.cells (Qi (List.replicate n 0)).toArray 3)).heap.size, 0, none⟩) 1 1) (w1 := (we.alloc (.cells (Qi (List.replicate n 0)).toArray 3)).alloc (.cells #[.slice (some ⟨we.heap.size, 0, none⟩) n n] 22)) (by go_simp; try rfl) ?_
           refine d _ _ ?_;clear d K2;have m := KM.go (A' := (we.alloc (.cells (Qi (List.replicate n 0)).toArray 3)).alloc (.cells #[.slice (some ⟨we.heap.size, 0, none⟩) n n] 22)) ((Below.refl _ _).alloc (Nat.le_refl _) _);simp only [Act.put, Qa, Qb, Qc];refine ⟨z.out _ m.ch, ?_⟩;exact au
         · refine Qg rfl rfl (fun K2 d => ?_);refine Qj (.slice (some ⟨we.heap.size, 0, none⟩) n n) (QP rfl rfl rfl (a5.out we)) ?_;refine d _ _ ?_;clear d K2;have KM := KE.out.go (A' := we.alloc (.cells (Qi (List.replicate n 0)).toArray 3)) ((Below.refl _ _).alloc (Nat.le_refl _) _);simp only [Act.put, Qa, Qb, Qc];refine ⟨z.out _ KM.ch, ?_⟩;refine wpAnyH_all (rs := [4, 12]) (by kernel_rfl) (by simp) (fun i hi => ?_);have aj : i = 4 ∨ i = 12 := by simpa using hi
           rcases aj with rfl | rfl
           · refine Qg rfl rfl (fun K2 d => ?_);refine Qj av (w1 := (we.alloc (.cells (Qi (List.replicate n 0)).toArray 3))) (by have h := (KM).row.cellv (i := 4) (v := av) rfl; go_simp) ?_;refine d _ _ ?_;clear d K2;simp only [Act.put, Qa, Qb, Qc];refine ⟨z.out _ (KM).ch, ?_⟩;(refine wpAnyH_all (rs := [12]) (by kernel_rfl) (by simp) (fun i hi => ?_); obtain rfl : i = 12 := by simpa using hi);refine Qg rfl rfl (fun K2 d => ?_);refine Qj (.slice (some ⟨(we.alloc (.cells (Qi (List.replicate n 0)).toArray 3)).heap.size, 0, none⟩) 1 1) (w1 := (we.alloc (.cells (Qi (List.replicate n 0)).toArray 3)).alloc (.cells #[.slice (some ⟨we.heap.size, 0, none⟩) n n] 22)) (by go_simp; try rfl) ?_
             refine d _ _ ?_;clear d K2;have m := KM.go (A' := (we.alloc (.cells (Qi (List.replicate n 0)).toArray 3)).alloc (.cells #[.slice (some ⟨we.heap.size, 0, none⟩) n n] 22)) ((Below.refl _ _).alloc (Nat.le_refl _) _);simp only [Act.put, Qa, Qb, Qc];refine ⟨z.out _ m.ch, ?_⟩;exact au
           · refine Qg rfl rfl (fun K2 d => ?_);refine Qj (.slice (some ⟨(we.alloc (.cells (Qi (List.replicate n 0)).toArray 3)).heap.size, 0, none⟩) 1 1) (w1 := (we.alloc (.cells (Qi (List.replicate n 0)).toArray 3)).alloc (.cells #[.slice (some ⟨we.heap.size, 0, none⟩) n n] 22)) (by go_simp; try rfl) ?_
             refine d _ _ ?_;clear d K2;have m := KM.go (A' := (we.alloc (.cells (Qi (List.replicate n 0)).toArray 3)).alloc (.cells #[.slice (some ⟨we.heap.size, 0, none⟩) n n] 22)) ((Below.refl _ _).alloc (Nat.le_refl _) _);simp only [Act.put, Qa, Qb, Qc];refine ⟨z.out _ m.ch, ?_⟩;(refine wpAnyH_all (rs := [4]) (by kernel_rfl) (by simp) (fun i hi => ?_); obtain rfl : i = 4 := by simpa using hi);refine Qg rfl rfl (fun K2 d => ?_);refine Qj av (w1 := ((we.alloc (.cells (Qi (List.replicate n 0)).toArray 3)).alloc (.cells #[.slice (some ⟨we.heap.size, 0, none⟩) n n] 22))) (by have h := (m).row.cellv (i := 4) (v := av) rfl; go_simp) ?_;refine d _ _ ?_;clear d K2;simp only [Act.put, Qa, Qb, Qc];refine ⟨z.out _ (m).ch, ?_⟩;exact au
      case tail =>
       have KM := KE.out.go (A' := we.alloc (.cells (Qi (List.replicate n 0)).toArray 3)) ((Below.refl _ _).alloc (Nat.le_refl _) _);have m := KM.go (A' := (we.alloc (.cells (Qi (List.replicate n 0)).toArray 3)).alloc (.cells #[.slice (some ⟨we.heap.size, 0, none⟩) n n] 22)) ((Below.refl _ _).alloc (Nat.le_refl _) _);(refine wpAnyH_all (rs := [13]) (by kernel_rfl) (by simp) (fun i hi => ?_); obtain rfl : i = 13 := by simpa using hi);have bb : Row ((we.alloc (.cells (Qi (List.replicate n 0)).toArray 3)).alloc (.cells #[.slice (some ⟨we.heap.size, 0, none⟩) n n] 22)) we.heap.size 3 (Qi (List.replicate n 0)).toArray := (Row.new we _ _).alloc _;have gn := KE.out.size
       have bq : ∀ g ∈ gs, g < we.heap.size := by
        intro g ar;obtain ⟨i, ba, hi⟩ := LR ar;have o : gs[i]? = some g := by rw [La ba, hi]
        have y : p.V[i]? = some (p.V[i]'(by have := bd.out; omega)) := La _;exact (KE.out.rows i g _ o y).lt
       have b7 : q.ownBlock ≠ some we.heap.size := fun e => by have := KG KE.out.vv e; omega
       generalize bv : (we.alloc (.cells (Qi (List.replicate n 0)).toArray 3)).alloc (.cells #[.slice (some ⟨we.heap.size, 0, none⟩) n n] 22) = w8 at *;have bp : ∀ (j : Nat) (u : Value), [Value.slice (some ⟨we.heap.size, 0, none⟩) n n][j]? = some u → w8.cell? ((⟨(we.alloc (.cells (Qi (List.replicate n 0)).toArray 3)).heap.size, 0, none⟩ : Addr).add j) = some u := by rw [← bv]; exact cell_one_new _ _ _
       clear bv;refine Qg rfl rfl (fun K2 d => ?_);refine Zx (.tmp 53) (.tmp 61) 46 rfl s 22 i0 (.slice none 0 0) 1 24 Tryz.underlying46 ax a2 a3 a4 rfl (by decide) av k _ rfl m.av _ 1 1 [Value.slice (some ⟨we.heap.size, 0, none⟩) n n] rfl rfl bp (by simp [Value.oneCell']) (by unfold maxLen; omega) (by omega) m.size ?_;intro ao w9 ac ae _;refine d _ _ ?_;clear d K2;have br := m.row.grown ae (QC m.av m.row (by decide));have b6 := QY m.vv ae (QX m.vv m.av (by decide));have al : ∀ (i g : Nat) (t : Int), gs[i]? = some g → p.V[i]? = some t → Row w9 g 3 (Qi (List.replicate (Qx t).toNat 0)).toArray := fun i g t o y => (m.rows i g t o y).grown ae (QC m.av (m.rows i g t o y) (by decide));have b0 := bb.grown ae (QC m.av bb (by decide));have bo := m.ch.trans (.grown ae m.size (fun k e => QH m.av e));have a0 := ZU ac;have co := Lh br;have ct := Lh b6;have a7 := Lh al;have cs := Lh b0;have am := Lh bo;have bk := Lh ac;have cn := Lh bq;have cu := Lh b7;simp only [Act.put, Qa, Qb, Qc];refine ⟨z.out _ am.out, ?_⟩;have d0 : S w9 := z.out _ am.out;clear br b6 al b0 bo ac ae bb bp m KM KE bq b7;(refine tkH 14 (.pointer (some ⟨M, 0, none⟩)) rfl (Qd rfl (fun W x => by (go_simp))) ?_; simp only [Act.put, Qa, Qb, Qc]);(refine tkH 15 (.pointer (some ⟨M, 4, none⟩)) rfl (Qd rfl (fun W x => by (go_simp))) ?_; simp only [Act.put, Qa, Qb, Qc]);(refine wpAnyH_all (rs := [16]) (by kernel_rfl) (by simp) (fun i hi => ?_); obtain rfl : i = 16 := by simpa using hi);refine Qg rfl rfl (fun K2 d => ?_);refine ZM 46 (.tmp 64) (.tmp 62) rfl M 4 rfl _ rfl [ao] (by cases ao <;> first | rfl | cases a0) 201 _ (JC p q ao fuel) co.out (by kernel_rfl) (by show 4 + 1 ≤ 11; omega) (by simpa using a0) rfl ?_
       intro b8 bx af;refine d _ _ ?_;clear d K2;simp only [Act.put, Qa, Qb, Qc];refine ⟨z.out _ (am.out.trans (.only af)), ?_⟩;refine wpAnyH_done (by kernel_rfl) ?_ _
       have aw : RK2 p M s fuel args W1 (k + 1) b8 := by
        have ne : ∀ {e : TypeId} {u : Value} {n : Nat} {xs : List Value}, w9.ownsRow s e 1 u n xs → b8.ownsRow s e 1 u n xs := fun h => QA h af (fun e => by have := QH h e; omega)
        have be := bd.out;subst be;refine ⟨q, ao, gs ++ [we.heap.size], bx, by simp, ne ct.out, ?_, fun i g t' o y => ?_, fun g hg => ?_, ?_, fun g hg => ?_, am.out.trans (.only af)⟩
        · rw [Vu gs p.V we.heap.size t Ht.out, an.out, Lg]; exact ne bk.out
        · rcases LS i gs.length with hl | hl | hl
          · rw [Lw hl] at o;exact (a7.out i g t' o y).only af (by have := bc.out g (Lf o); omega)
          · subst hl;rw [Ls (Nat.le_refl _), Nn] at o;injection o with o;subst o;rw [Ht.out] at y;injection y with y;subst y;rw [an.out, Lg];exact cs.out.only af (by omega)
          · rw [Ls (by omega)] at o;have := (Lb.1 o).1;simp at this; omega
        · rcases Lz.1 hg with hg | hg
          · exact bc.out g hg
          · rw [Lo.1 hg]; exact gn
        · rw [List.nodup_append];refine ⟨c6.out, by simp, fun a ha b hb e => ?_⟩;rw [Lo.1 hb] at e;have := cn.out a ha;omega
        · rcases Lz.1 hg with hg | hg
          · exact bj.out g hg
          · rw [Lo.1 hg]; exact cu.out
       have bi := Lh aw;clear aw bx af;go_wp2_with fail
       go_roundw
       case rel => exact ⟨k + 1, by go_num, by omega, bi⟩
       case measure => simp [intOf]; omega
  · obtain rfl : k = p.V.length := by omega
    have cG : wr.cell? ⟨G, 1, none⟩ = some (.slice p.va p.V.length p.vcap) := by
     obtain ⟨_, _, _, _, _, _, _, _, _, _, _, aq⟩ := hK.out;exact (G1.out.chm aq (by omega) (by omega)).cellv (i := 1) rfl
    obtain ⟨L, dy, da, c9, hL, hR, hN, a9⟩ := Agf c2.out a6.out Hf.out cc dz bh.out B1.out hK.out dw.out db;have HL := Lh hL;have HR := Lh hR;have HN := Lh hN;have dt := Lh a9;have d4 := Lh da;have d3 := Lh c9;have BW := Lh (B1.out.trans ((show ChM M s W1 wr from by obtain ⟨_, _, _, _, _, _, _, _, _, _, _, aq⟩ := hK.out; exact aq).to_below (by have := B1.out.size; have := bh.out; omega) cc));subst dy;subst da;clear cd hk hK hL hR hN a9 c9;have ci := Lh (Big.ent L HL.out c1.out (Adc a6.out Hg.out) (Acj a6.out Hg.out cp.out c5.out du.out) (by simp [ZH]) 0 (.slice none 0 0) wr Hg.out.hat HR.out);go_wp2_with fail
    refine ci.out.mono ?_;rintro e W2 ⟨rfl, a8, dk, df⟩;have c8 := Lh (JR L HL.out s' a8 3 0 W2 dk);have c3 := Lh df;clear dk df cG;go_wp2_with fail
    refine c8.out.mono ?_;rintro e W3 ⟨rfl, ce, dg⟩;have cy := c3.out.trans dg;have de := cy.new HN.out BW.out.size;have dq := dt.out.go cy;obtain ⟨sf, dr⟩ : ∃ sf, s'.stopped 3 0 = sf := ⟨_, rfl⟩;rw [dr] at ce;obtain ⟨S, ai⟩ : ∃ S, S = (fun W => RR L sf a8 W ∧ Row W RB 40 #[.int .i64 0, .int .i64 0, .int .i64 0, .slice none 0 0] ∧ Below w.heap.size w W) := ⟨_, rfl⟩;have d8 : St S := by rw [ai]; exact ⟨fun h b => ⟨h.1.below HL.out b, h.2.1.below b h.2.1.lt, h.2.2.trans (b.mono h.2.2.size)⟩⟩
    have S0 : Hid (∀ W, S W → RR L sf a8 W) := by show ∀ W, _; rw [ai]; exact fun W h => h.1
    have S1 : Hid (∀ W, S W → Row W RB 40 #[.int .i64 0, .int .i64 0, .int .i64 0, .slice none 0 0]) := by show ∀ W, _; rw [ai]; exact fun W h => h.2.1
    have z : Hid (∀ W, S W → Below w.heap.size w W) := by show ∀ W, _; rw [ai]; exact fun W h => h.2.2
    have hS : S W3 := by rw [ai]; exact ⟨ce, dq, BW.out.trans de⟩
    have dp := ZU ce.core.evs;have c7 := Lh dp;clear ai ce dg cy de dq dp c8 c3 ci;go_wp2_with fail
    refine Zo S 13 (by kernel_rfl) (by kernel_rfl) (St.drew hS) ?_;clear hS;simp only [L0, LE, Ly, L8]
    iterate 3 (refine Qf rfl ?_ (fun W x => ?_) ?_; rotate_left; (focus (go_simp; exact rfl)); simp only [Act.put, Qa, Qb, Qc])
    (refine ZJ rfl 37 _ rfl (⟨L.M, 8, none⟩) rfl [.int .i64 (sf.out.getD (0, 0)).1, .int .i64 (sf.out.getD (0, 0)).2] _ (fun W x => Ajj (S0.out W x)) Tryz.underlying37 rfl (by kernel_rfl) ?_; simp only [Act.put, Qa, Qb, Qc])
    iterate 3 (refine Qf rfl ?_ (fun W x => ?_) ?_; rotate_left; (focus (go_simp; exact rfl)); simp only [Act.put, Qa, Qb, Qc])
    (refine Qf rfl ?_ (fun W x => ?_) ?_; rotate_left; (focus (have c := (S0.out W x).row.cellv (i := 6) (v := .int .i64 (sf.steps : Int)) rfl; go_simp; exact rfl)); simp only [Act.put, Qa, Qb, Qc])
    iterate 3 (refine Qf rfl ?_ (fun W x => ?_) ?_; rotate_left; (focus (go_simp; exact rfl)); simp only [Act.put, Qa, Qb, Qc])
    (refine Qf rfl ?_ (fun W x => ?_) ?_; rotate_left; (focus (have c := (S0.out W x).row.cellv (i := 7) (v := a8) rfl; go_simp; exact rfl)); simp only [Act.put, Qa, Qb, Qc]);refine Qf rfl (.agg #[.int .i64 (sf.out.getD (0, 0)).1, .int .i64 (sf.out.getD (0, 0)).2, .int .i64 (sf.steps : Int), a8]) (fun W _ => J6 40 [_, _, _] rfl _ (by exact AfC _ _ _ _ c7.out W)) ?_;simp only [Act.put, Qa, Qb, Qc];refine QG fun W x => ?_
    go_wp2_with (refine Qv _ _ _ rfl ?_)
    refine Stop.to ?_;refine Ql rfl 40 _ _ rfl RB #[.int .i64 (sf.out.getD (0, 0)).1, .int .i64 (sf.out.getD (0, 0)).2, .int .i64 (sf.steps : Int), a8] rfl rfl 40 _ (S1.out _ x) (by kernel_rfl) rfl (YD _ _ _ c7.out) ?_;intro W9 r9 o9;go_wp2_with fail
    refine bodyPost_ret (QN Tryz.results72 _ _ RB 40 _ (0, 0) _ rfl r9 Tryz.underlying40 rfl (by kernel_rfl)) rfl ?_;have hf := S0.out _ x;rw [← dr] at hf ⊢;exact ⟨a8, rfl, QK (QA hf.core.evs o9 (QC hf.core.evs (S1.out _ x) (by decide))) (Li HN.out.b1 (Nat.le_refl _)), Qp (z.out _ x) o9 dc⟩
end Go.Proofs.YtdcmppdhdcjpfaaGreat
