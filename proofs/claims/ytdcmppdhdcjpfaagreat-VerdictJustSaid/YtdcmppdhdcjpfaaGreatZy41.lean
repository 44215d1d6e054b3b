/- Lemmas for VerdictJustP. -/
import Derived.Test.YtdcmppdhdcjpfaaGreatZy1
import Derived.Test.YtdcmppdhdcjpfaaGreatZy34
import Derived.Test.YtdcmppdhdcjpfaaGreatZy35
import Derived.Test.YtdcmppdhdcjpfaaGreatZy40
set_option linter.unusedVariables false
set_option linter.unusedSimpArgs false
set_option maxRecDepth 100000
set_option maxHeartbeats 16000000
namespace Go.Proofs.YtdcmppdhdcjpfaaGreat
open Go.RowKit Go.Deep
instance stJ {c : Prop} {y : MtV} : St (fun W => c → MtT W y) := ⟨fun h b hc => (h hc).go b⟩
theorem JF (w : World) : (zeroValue 37).run Tryz.prog w = .ok (.agg (ZI 0 0).toArray) w := by kernel_rfl
theorem Adl (k v : Int) : (ZI k v).toArray.all (·.oneCell') = true := by simp [ZI, Value.oneCell']
theorem Abd {P : Program} {md : Region.Mode} {o : Array Oper} {Q : Exit → Act → World → Prop} {S : World → Prop} {n : Nat} {L : Array Bool} {f : Act} {F : World → Prop} {G : Prop}
 (main : (∀  W, F  W → wpAnyH P md o Q S n L (f ) W) → G) (tail : ∀  W, F  W → wpAnyH P md o Q S n L (f ) W) : G := main tail
theorem KX {P : Program} {md : Region.Mode} {o : Array Oper} {Q : Exit → Act → World → Prop} {S : World → Prop} {n : Nat} {L : Array Bool} {f : Nat → Act} {F : Nat → World → Prop} {G : Prop}
 (main : (∀ (g0 : Nat) W, F g0 W → wpAnyH P md o Q S n L (f g0) W) → G) (tail : ∀ (g0 : Nat) W, F g0 W → wpAnyH P md o Q S n L (f g0) W) : G := main tail
theorem XR {P : Program} {md : Region.Mode} {o : Array Oper} {Q : Exit → Act → World → Prop} {S : World → Prop} {n : Nat} {L : Array Bool} {f : Nat → Nat → Act} {F : Nat → Nat → World → Prop} {G : Prop}
 (main : (∀ (g0 : Nat) (g1 : Nat) W, F g0 g1 W → wpAnyH P md o Q S n L (f g0 g1) W) → G) (tail : ∀ (g0 : Nat) (g1 : Nat) W, F g0 g1 W → wpAnyH P md o Q S n L (f g0 g1) W) : G := main tail
theorem Vc (p : PgV) (x : DlV) (t : TsV) (fuel : Int) (hfuelI : -9223372036854775808 ≤ fuel ∧ fuel ≤ 9223372036854775807) (w : World) (hok : p.ok w) (hx : DlRaw w x) (ht : TsRaw w t) : Calls Tryz.prog 9 #[p.val, .agg x.cells, t.val, .int .i64 fuel] w fun e w' => e = .returned (.bool true) ∧ Below w.heap.size w w' := by
 obtain ⟨tA, ai, ts⟩ := t;obtain ⟨ci, cj, ck, cl, cm⟩ := ht;rw [show p.val = .agg p.cells from rfl, show (TsV.mk tA ai ts).val = .slice tA ts.length ai from rfl];have dn : Hid (ts.length ≤ ai ∧ ai ≤ maxLen ∧ (tA = none → ai = 0)) := ⟨ci, cj, ck⟩;obtain ⟨xA, xc, d⟩ := x;rw [show (DlV.mk xA xc d).cells = #[.slice xA d.path.length xc, .int .i64 d.op, .int .i64 d.n] from rfl];have cp : Rd w xA (Qi d.path) := hx.rd;go_enter Tryz.func9, Tryz.ntmps9
 obtain ⟨S0, r⟩ : ∃ S : World → Prop, S = (fun W => Below w.heap.size w W ∧ p.ok W ∧ Rd W xA (Qi d.path) ∧ Rd W tA (Xf ts) ∧ (∀ y ∈ ts, y.ok W)) := ⟨_, rfl⟩;have db : St S0 := by rw [r]; infer_instance
 have ak : Hid (∀ W, S0 W → Below w.heap.size w W) := by show ∀ W, _; rw [r]; exact fun W h => h.1
 have am : Hid (∀ W, S0 W → p.ok W) := by show ∀ W, _; rw [r]; exact fun W h => h.2.1
 have aw : Hid (∀ W, S0 W → Rd W xA (Qi d.path)) := by show ∀ W, _; rw [r]; exact fun W h => h.2.2.1
 have ag : Hid (∀ W, S0 W → Rd W tA (Xf ts)) := by show ∀ W, _; rw [r]; exact fun W h => h.2.2.2.1
 have s : Hid (∀ W, S0 W → (∀ y ∈ ts, y.ok W)) := by show ∀ W, _; rw [r]; exact fun W h => h.2.2.2.2
 have b5 : Hid (S0 w) := by show S0 w; rw [r]; exact ⟨Below.refl _ _, hok, cp, cl, cm⟩
 clear r;clear ci cj ck cl cm hok cp hx;go_wp2_with (refine Qn _ _ rfl ?_)
 refine Stop.to ?_;refine Qe rfl 25 _ rfl p.cells rfl ?_;intro a3 cq hG rG bG;have o := db.go b5.out (bG.mono hG);obtain ⟨S1, r⟩ : ∃ S : World → Prop, S = (fun W => S0 W ∧ Row W a3 25 p.cells) := ⟨_, rfl⟩;have dc : St S1 := by rw [r]; infer_instance
 have D1 : Hid (∀ W, S1 W → S0 W) := by show ∀ W, _; rw [r]; exact fun W h => h.1
 have bl : Hid (∀ W, S1 W → Row W a3 25 p.cells) := by show ∀ W, _; rw [r]; exact fun W h => h.2
 have b6 : Hid (S1 cq) := by show S1 cq; rw [r]; exact ⟨o, rG⟩
 clear r;clear o b5 hG rG bG;go_wp2_with (refine Qn _ _ rfl ?_)
 refine Stop.to ?_;refine Qe rfl 35 _ rfl #[.slice xA d.path.length xc, .int .i64 d.op, .int .i64 d.n] rfl ?_;intro a8 b3 hG rG bG;have o := dc.go b6.out (bG.mono hG);obtain ⟨S2, r⟩ : ∃ S : World → Prop, S = (fun W => S1 W ∧ Row W a8 35 #[.slice xA d.path.length xc, .int .i64 d.op, .int .i64 d.n]) := ⟨_, rfl⟩;have b2 : St S2 := by rw [r]; infer_instance
 have D2 : Hid (∀ W, S2 W → S1 W) := by show ∀ W, _; rw [r]; exact fun W h => h.1
 have bk : Hid (∀ W, S2 W → Row W a8 35 #[.slice xA d.path.length xc, .int .i64 d.op, .int .i64 d.n]) := by show ∀ W, _; rw [r]; exact fun W h => h.2
 have af : Hid (S2 b3) := by show S2 b3; rw [r]; exact ⟨o, rG⟩
 clear r;clear o b6 hG rG bG;go_wp2_with fail
 refine (AdL b3).mono ?_;rintro e dh ⟨rfl, bb⟩;have o := b2.go af.out (bb);replace af := Lh o;clear o bb;go_wp2_with (refine wpList_load_row rfl 25 _ rfl a3 rfl 25 p.cells (0, 0) _ (bl.out _ (D2.out _ af.out)) Tryz.underlying25 rfl (by kernel_rfl) ?_)
 refine (AfX p tA ai ts fuel dh (ag.out _ (D1.out _ (D2.out _ af.out)))).mono ?_;rintro e di ⟨rfl, bb⟩;have o := b2.go af.out (bb);replace af := Lh o;clear o bb;generalize hq : Ahl p ts fuel = q;have Hq := Lh hq;clear hq;cases q
 · skip;go_wp2_with fail
   go_ret
   exact ⟨rfl, (ak.out _ (D1.out _ (D2.out _ af.out)))⟩
 have bo := AiO Hq.out;have bc : Hid (p.body.length ≤ 40) := bo.1;have cw : Hid (ts.length ≤ 5) := bo.2.2.1;have cb : Hid (∀ x ∈ ts, x.l.length ≤ 40) := bo.2.2.2.1;have dk : (ts.length : Int) ≤ 5 := by omega
 clear bo Hq;have cx := (bk.out _ af.out).cellv (i := 0) (v := .slice xA d.path.length xc) rfl;by_cases hd : 60 < (d.path.length : Int)
 · skip;go_wp2_with fail
   go_ret
   exact ⟨rfl, (ak.out _ (D1.out _ (D2.out _ af.out)))⟩
 have dj : (d.path.length : Int) ≤ 60 := by omega
 have Hd : Hid (d.path.length ≤ 1000000) := by show _ ≤ _; omega
 go_wp2_with (first | (refine wpList_load_row rfl 25 _ rfl a3 rfl 25 p.cells (0, 0) _ (bl.out _ (D2.out _ af.out)) Tryz.underlying25 rfl (by kernel_rfl) ?_) | (refine wpList_load_row rfl 35 _ rfl a8 rfl 35 #[.slice xA d.path.length xc, .int .i64 d.op, .int .i64 d.n] (0, 0) _ (bk.out _ af.out) Tryz.underlying35 rfl (by kernel_rfl) ?_))
 refine (Kg p ⟨xA, xc, d⟩ tA ai ts fuel di (am.out _ (D1.out _ (D2.out _ af.out))) ⟨(aw.out _ (D1.out _ (D2.out _ af.out))), Hd.out⟩ (by have := bc.out; omega) (ag.out _ (D1.out _ (D2.out _ af.out))) (s.out _ (D1.out _ (D2.out _ af.out))) (by have := cw.out; omega)).mono ?_;rintro e bq ⟨yA, rfl, hy, bz, bb⟩;have bu := Lh bz;have bt : Hid (Zv p d (List.map IntsV.l ts) fuel = 0 → yA.m = K9 p d (List.map IntsV.l ts) fuel) := fun h => (hy h).1;have o := b2.go af.out (bb);obtain ⟨S3, r⟩ : ∃ S : World → Prop, S = (fun W => S2 W ∧ (Zv p d (List.map IntsV.l ts) fuel = 0 → MtT W yA)) := ⟨_, rfl⟩;have dd : St S3 := by rw [r]; infer_instance
 have D3 : Hid (∀ W, S3 W → S2 W) := by show ∀ W, _; rw [r]; exact fun W h => h.1
 have bs : Hid (∀ W, S3 W → (Zv p d (List.map IntsV.l ts) fuel = 0 → MtT W yA)) := by show ∀ W, _; rw [r]; exact fun W h => h.2
 have b7 : Hid (S3 bq) := by show S3 bq; rw [r]; exact ⟨o, (fun h => (hy h).2)⟩
 clear r;clear o af bb;clear cx;go_wp2_with (refine QH _ rfl ?_)
 refine Stop.to ?_;refine Qj rfl 54 rfl _ _ (Kd _) rfl ?_;intro ax du hG rG bG;go_wp2_with (refine Qs _ _ _ rfl ?_)
 refine Stop.to ?_;refine Qk rfl 54 _ _ rfl ax yA.cells.toArray rfl rfl 54 _ rG (by kernel_rfl) rfl (by simp [MtV.cells, Value.oneCell']) ?_;intro a0 rH oH;have bH : Below (bq).heap.size bq a0 := (bG.mono hG).trans (oH.below hG);have o := dd.go b7.out (bH);obtain ⟨S4, r⟩ : ∃ S : World → Prop, S = (fun W => S3 W ∧ Row W ax 54 yA.cells.toArray) := ⟨_, rfl⟩;have de : St S4 := by rw [r]; infer_instance
 have D4 : Hid (∀ W, S4 W → S3 W) := by show ∀ W, _; rw [r]; exact fun W h => h.1
 have aj : Hid (∀ W, S4 W → Row W ax 54 yA.cells.toArray) := by show ∀ W, _; rw [r]; exact fun W h => h.2
 have aq : Hid (S4 a0) := by show S4 a0; rw [r]; exact ⟨o, rH⟩
 clear r;clear o b7 hG rG bG rH oH bH;by_cases hc : Zv p d (List.map IntsV.l ts) fuel = 0;rotate_left
 · have dp : (Zv p d (List.map IntsV.l ts) fuel != 0) = true := by simpa using hc
   obtain rfl := bu.out hc;clear hc bt bu hy bz;have c0 := (aj.out _ aq.out).cellv (i := 0) (v := .slice none 0 0) rfl;have c7 := (aj.out _ aq.out).cellv (i := 7) (v := .string ⟨#[]⟩) rfl;go_wp2_with fail
   go_ret
   exact ⟨rfl, (ak.out _ (D1.out _ (D2.out _ (D3.out _ (D4.out _ aq.out)))))⟩
 have Hc := Lh hc;have Hj := Lh (bt.out hc);have cc : Hid (∀ W, S4 W → MtT W yA) := by show ∀ W, _; exact fun W hW => (bs.out _ (D4.out _ hW)) hc
 rw [hc];have b9 : Hid (YW p d = 0) := (Aen hc).2.2;clear hc hy bz bu bt;have br := cc;clear cc;go_wp2_with (first | (refine wpList_load_row rfl 25 _ rfl a3 rfl 25 p.cells (0, 0) _ (bl.out _ (D2.out _ (D3.out _ (D4.out _ aq.out)))) Tryz.underlying25 rfl (by kernel_rfl) ?_) | (refine wpList_load_row rfl 35 _ rfl a8 rfl 35 #[.slice xA d.path.length xc, .int .i64 d.op, .int .i64 d.n] (0, 0) _ (bk.out _ (D3.out _ (D4.out _ aq.out))) Tryz.underlying35 rfl (by kernel_rfl) ?_))
 refine (EA p ⟨xA, xc, d⟩ a0 (am.out _ (D1.out _ (D2.out _ (D3.out _ (D4.out _ aq.out))))) ⟨(aw.out _ (D1.out _ (D2.out _ (D3.out _ (D4.out _ aq.out))))), Hd.out⟩ (by have := bc.out; omega)).mono ?_;rintro e a1 ⟨m, rfl, hm, -, bb⟩;obtain ⟨c5, okm, c6, -⟩ := hm b9.out;have Hm := Lh c5;have ca := Lh c6;rw [b9.out];have o := de.go aq.out (bb);obtain ⟨S5, r⟩ : ∃ S : World → Prop, S = (fun W => S4 W ∧ m.ok W) := ⟨_, rfl⟩;have df : St S5 := by rw [r]; infer_instance
 have D5 : Hid (∀ W, S5 W → S4 W) := by show ∀ W, _; rw [r]; exact fun W h => h.1
 have al : Hid (∀ W, S5 W → m.ok W) := by show ∀ W, _; rw [r]; exact fun W h => h.2
 have b8 : Hid (S5 a1) := by show S5 a1; rw [r]; exact ⟨o, okm⟩
 clear r;clear o aq bb okm hm;go_wp2_with (refine QH _ rfl ?_)
 refine Stop.to ?_;refine Qj rfl 25 rfl _ _ YC rfl ?_;intro ar dm hG rG bG;go_wp2_with (refine Qs _ _ _ rfl ?_)
 refine Stop.to ?_;refine Qk rfl 25 _ _ rfl ar m.cells rfl rfl 25 _ rG (by kernel_rfl) rfl (by simp [PgV.cells, Value.oneCell']) ?_;intro bj rH oH;have bH : Below (a1).heap.size a1 bj := (bG.mono hG).trans (oH.below hG);have o := df.go b8.out (bH);obtain ⟨S6, r⟩ : ∃ S : World → Prop, S = (fun W => S5 W ∧ Row W ar 25 m.cells) := ⟨_, rfl⟩;have dg : St S6 := by rw [r]; infer_instance
 have D6 : Hid (∀ W, S6 W → S5 W) := by show ∀ W, _; rw [r]; exact fun W h => h.1
 have b4 : Hid (∀ W, S6 W → Row W ar 25 m.cells) := by show ∀ W, _; rw [r]; exact fun W h => h.2
 have ab : Hid (S6 bj) := by show S6 bj; rw [r]; exact ⟨o, rH⟩
 clear r;clear o b8 hG rG bG rH oH bH;have ce := ab.out;go_wp2_with fail
 go_loopw [14, 15, 16] (fun z1 z2 i wr => ∃ k : Nat, i = .int .i64 (k : Int) ∧ k ≤ ts.length ∧ z1 = .int .i64 (JH 1 (Ko p d fuel ((ts.map IntsV.l).take k))) ∧ z2 = .int .i64 (JH 2 (Ko p d fuel ((ts.map IntsV.l).take k))) ∧ S6 wr) (fun _ _ i _ => ts.length - (intOf i).toNat)
 case atStart => exact ⟨0, rfl, Nat.zero_le _, rfl, rfl, ce⟩
 case round =>
  clear ce ab;obtain ⟨k, rfl, hk, rfl, rfl, bg⟩ := hrel;by_cases ch : k < ts.length
  · skip;obtain ⟨t, ht⟩ : ∃ t, ts[k]? = some t := ⟨_, Lb ch⟩;have Ht := Lh ht;have aa : Hid (t ∈ ts) := Lg ht;obtain ⟨z1, ay⟩ : ∃ z, z = JH 1 (Ko p d fuel ((ts.map IntsV.l).take k)) := ⟨_, rfl⟩;obtain ⟨z2, az⟩ : ∃ z, z = JH 2 (Ko p d fuel ((ts.map IntsV.l).take k)) := ⟨_, rfl⟩;rw [← ay, ← az];have an := Lh ay;have ao := Lh az;obtain ⟨ad, bv, _⟩ := JQ (ag.out _ (D1.out _ (D2.out _ (D3.out _ (D4.out _ (D5.out _ (D6.out _ bg))))))) ht;subst bv;have c2 : (k : Int) < (ts.length : Int) := by omega
    have dq : (0 : Int) ≤ (k : Int) := by omega
    have ab := Lh bg;clear ht ay az bg;go_wp2_with fail
    obtain ⟨B, bn⟩ : ∃ B, B = (wr).heap.size := ⟨_, rfl⟩;obtain ⟨T, bh⟩ : ∃ T : World → Prop, T = (fun W => Below B (wr) W) := ⟨_, rfl⟩;have t0 : Hid (∀ W, T W → S6 W) := by show ∀ W, _; rw [bh, bn]; exact fun W h => dg.go ab.out h
    have sz : Hid (∀ W, T W → B ≤ W.heap.size) := by show ∀ W, _; rw [bh, bn]; exact fun W h => h.size
    have sB : Hid (∀ W W', T W → Below B W W' → T W') := by show ∀ W W', _; rw [bh]; exact fun W W' h b => h.trans b
    have g : T (wr).drew := by rw [bh, bn]; exact St.drew (S := fun W => Below (wr).heap.size (wr) W) (Below.refl _ _)
    clear bh bn;refine wp_region_held (S := T) (by kernel_rfl) ?_;simp only [Lj, Ld, Lp, Nat.reduceAdd, Ll, Lm, Lr, Lo, Lk];show wpAnyH _ _ _ _ _ _ _ _ (wr).drew;generalize (wr).drew = w0 at g ⊢;(refine tkH 0 _ rfl ((Kt rfl 25 _ rfl a3 rfl 25 p.cells _ (fun W hW => (bl.out _ (D2.out _ (D3.out _ (D4.out _ (D5.out _ (D6.out _ (t0.out _ hW)))))))) Tryz.underlying25 rfl (by kernel_rfl))) ?_; simp only [Act.put, Qa, Qb, Qc]);(refine tkH 1 (.slice (some ad) ts.length ai) rfl (Qd rfl (fun W hW => by (go_simp))) ?_; simp only [Act.put, Qa, Qb, Qc]);(refine tkH 2 (.int .i64 (k : Int)) rfl (Qd rfl (fun W hW => by (go_simp))) ?_; simp only [Act.put, Qa, Qb, Qc]);(refine tkH 3 (.pointer (some (ad.add k))) rfl (Qd rfl (fun W hW => by (go_simp))) ?_; simp only [Act.put, Qa, Qb, Qc]);(refine tkH 4 (.slice t.addr t.l.length t.cap) rfl (Qd rfl (fun W hW => by ((have c := (by obtain ⟨a2, e2, h2⟩ := JQ (ag.out _ (D1.out _ (D2.out _ (D3.out _ (D4.out _ (D5.out _ (D6.out _ (t0.out _ hW)))))))) Ht.out; injection e2 with e2; rw [e2]; exact h2 : W.cell? (ad.add k) = some (.slice t.addr t.l.length t.cap)); go_simp)))) ?_; simp only [Act.put, Qa, Qb, Qc]);(refine tkH 5 (.int .i64 fuel) rfl (Qd rfl (fun W hW => by (go_simp))) ?_; simp only [Act.put, Qa, Qb, Qc]);(refine tkH 7 _ rfl ((Kt rfl 25 _ rfl ar rfl 25 m.cells _ (fun W hW => (b4.out _ (t0.out _ hW))) Tryz.underlying25 rfl (by kernel_rfl))) ?_; simp only [Act.put, Qa, Qb, Qc]);(refine tkH 8 (.slice (some ad) ts.length ai) rfl (Qd rfl (fun W hW => by (go_simp))) ?_; simp only [Act.put, Qa, Qb, Qc]);(refine tkH 9 (.int .i64 (k : Int)) rfl (Qd rfl (fun W hW => by (go_simp))) ?_; simp only [Act.put, Qa, Qb, Qc]);(refine tkH 10 (.pointer (some (ad.add k))) rfl (Qd rfl (fun W hW => by (go_simp))) ?_; simp only [Act.put, Qa, Qb, Qc]);(refine tkH 11 (.slice t.addr t.l.length t.cap) rfl (Qd rfl (fun W hW => by ((have c := (by obtain ⟨a2, e2, h2⟩ := JQ (ag.out _ (D1.out _ (D2.out _ (D3.out _ (D4.out _ (D5.out _ (D6.out _ (t0.out _ hW)))))))) Ht.out; injection e2 with e2; rw [e2]; exact h2 : W.cell? (ad.add k) = some (.slice t.addr t.l.length t.cap)); go_simp)))) ?_; simp only [Act.put, Qa, Qb, Qc]);(refine tkH 12 (.int .i64 fuel) rfl (Qd rfl (fun W hW => by (go_simp))) ?_; simp only [Act.put, Qa, Qb, Qc]);have bm : Hid (p.body.length ≤ 1000) := by show _ ≤ _; have := bc.out; omega
    have a4 : Hid (m.body.length ≤ 1000) := by show _ ≤ _; have := ca.out; have := bc.out; omega
    have ap : Hid (t.l.length ≤ 1000) := by show _ ≤ _; have := cb.out t aa.out; omega
    apply XR (F := fun u g2 W => T W ∧ Row W u 37 (ZI ((Q8 p t.l fuel).out.getD (0, 0)).1 ((Q8 p t.l fuel).out.getD (0, 0)).2).toArray ∧ B ≤ u ∧ Row W g2 37 (ZI ((Q8 m t.l fuel).out.getD (0, 0)).1 ((Q8 m t.l fuel).out.getD (0, 0)).2).toArray ∧ B ≤ g2 ∧ u ≠ g2)
    case main =>
     intro da;apply XR (F := fun u g2 W => T W ∧ Row W u 37 (ZI ((Q8 p t.l fuel).out.getD (0, 0)).1 ((Q8 p t.l fuel).out.getD (0, 0)).2).toArray ∧ B ≤ u ∧ Row W g2 37 (ZI 0 0).toArray ∧ B ≤ g2 ∧ u ≠ g2)
     case main =>
      intro c9;apply XR (F := fun u g2 W => T W ∧ Row W u 37 (ZI 0 0).toArray ∧ B ≤ u ∧ Row W g2 37 (ZI 0 0).toArray ∧ B ≤ g2 ∧ u ≠ g2)
      case main =>
       intro b1;apply XR (F := fun u g2 W => T W ∧ Row W u 37 (ZI 0 0).toArray ∧ B ≤ u ∧ Row W g2 37 (ZI 0 0).toArray ∧ B ≤ g2 ∧ u ≠ g2)
       case main =>
        intro b0;apply KX (F := fun g2 W => T W ∧ Row W g2 37 (ZI 0 0).toArray ∧ B ≤ g2)
        case main =>
         intro j9;apply KX (F := fun u W => T W ∧ Row W u 37 (ZI 0 0).toArray ∧ B ≤ u)
         case main =>
          intro j8;apply XR (F := fun u g2 W => T W ∧ Row W u 37 (ZI 0 0).toArray ∧ B ≤ u ∧ Row W g2 37 (ZI 0 0).toArray ∧ B ≤ g2 ∧ u ≠ g2)
          case main =>
           intro j7;apply KX (F := fun g2 W => T W ∧ Row W g2 37 (ZI 0 0).toArray ∧ B ≤ g2)
           case main =>
            intro j6;apply KX (F := fun u W => T W ∧ Row W u 37 (ZI 0 0).toArray ∧ B ≤ u)
            case main =>
             intro j5;apply Abd (F := fun W => T W)
             case main =>
              intro j4;apply KX (F := fun g2 W => T W ∧ Row W g2 37 (ZI 0 0).toArray ∧ B ≤ g2)
              case main =>
               intro j3;apply KX (F := fun u W => T W ∧ Row W u 37 (ZI 0 0).toArray ∧ B ≤ u)
               case main =>
                intro j2;apply Abd (F := fun W => T W)
                case main =>
                 intro j1;refine wpAnyH_all (rs := [6, 14, 15]) (by kernel_rfl) (by simp) (fun i hi => ?_);simp only [Lt, L0, or_false] at hi;rcases hi with rfl | rfl | rfl
                 · skip;refine Qf rfl rfl (fun K2 j => ?_);refine Qq 34 #[.agg p.cells, .slice t.addr t.l.length t.cap, .int .i64 fuel] (w1 := w0) (by go_simp) ((JT p t.addr t.cap t.l fuel w0 bm.out ap.out (am.out _ (D1.out _ (D2.out _ (D3.out _ (D4.out _ (D5.out _ (D6.out _ (t0.out _ g)))))))) ((s.out _ (D1.out _ (D2.out _ (D3.out _ (D4.out _ (D5.out _ (D6.out _ (t0.out _ g)))))))) t aa.out).reads ((s.out _ (D1.out _ (D2.out _ (D3.out _ (D4.out _ (D5.out _ (D6.out _ (t0.out _ g)))))))) t aa.out).all).mono ?_);rintro e w1 ⟨rfl, bb⟩;refine ⟨_, rfl, ?_⟩;refine j _ _ ?_;clear j K2;simp only [Act.put, Qa, Qb, Qc];replace g := sB.out _ _ g (bb.mono (sz.out _ g));clear bb;refine ⟨g, ?_⟩;exact j1  w1 g
                 · skip;refine Qf rfl rfl (fun K2 j => ?_);refine QO 37 rfl _ _ (JF _) rfl ?_;intro u w1 hg r1 bx;refine j _ _ ?_;clear j K2;simp only [Act.put, Qa, Qb, Qc];have l1 : B ≤ u := Le (sz.out _ g) hg;replace g := sB.out _ _ g ((bx.mono hg).mono (sz.out _ g));clear bx hg;refine ⟨g, ?_⟩;exact j2 u w1 ⟨g, r1, l1⟩
                 · skip;refine Qf rfl rfl (fun K2 j => ?_);refine QO 37 rfl _ _ (JF _) rfl ?_;intro g2 w1 hg r2 bx;refine j _ _ ?_;clear j K2;simp only [Act.put, Qa, Qb, Qc];have l2 : B ≤ g2 := Le (sz.out _ g) hg;replace g := sB.out _ _ g ((bx.mono hg).mono (sz.out _ g));clear bx hg;refine ⟨g, ?_⟩;exact j3 g2 w1 ⟨g, r2, l2⟩
                case tail =>
                 rintro w0 g;refine wpAnyH_all (rs := [13, 14, 15]) (by kernel_rfl) (by simp) (fun i hi => ?_);simp only [Lt, L0, or_false] at hi;rcases hi with rfl | rfl | rfl
                 · skip;refine Qf rfl rfl (fun K2 j => ?_);refine Qq 34 #[.agg m.cells, .slice t.addr t.l.length t.cap, .int .i64 fuel] (w1 := w0) (by go_simp) ((JT m t.addr t.cap t.l fuel w0 a4.out ap.out (al.out _ (D6.out _ (t0.out _ g))) ((s.out _ (D1.out _ (D2.out _ (D3.out _ (D4.out _ (D5.out _ (D6.out _ (t0.out _ g)))))))) t aa.out).reads ((s.out _ (D1.out _ (D2.out _ (D3.out _ (D4.out _ (D5.out _ (D6.out _ (t0.out _ g)))))))) t aa.out).all).mono ?_);rintro e w1 ⟨rfl, bb⟩;refine ⟨_, rfl, ?_⟩;refine j _ _ ?_;clear j K2;simp only [Act.put, Qa, Qb, Qc];replace g := sB.out _ _ g (bb.mono (sz.out _ g));clear bb;refine ⟨g, ?_⟩;exact j4  w1 g
                 · skip;refine Qf rfl rfl (fun K2 j => ?_);refine QO 37 rfl _ _ (JF _) rfl ?_;intro u w1 hg r1 bx;refine j _ _ ?_;clear j K2;simp only [Act.put, Qa, Qb, Qc];have l1 : B ≤ u := Le (sz.out _ g) hg;replace g := sB.out _ _ g ((bx.mono hg).mono (sz.out _ g));clear bx hg;refine ⟨g, ?_⟩;exact j5 u w1 ⟨g, r1, l1⟩
                 · skip;refine Qf rfl rfl (fun K2 j => ?_);refine QO 37 rfl _ _ (JF _) rfl ?_;intro g2 w1 hg r2 bx;refine j _ _ ?_;clear j K2;simp only [Act.put, Qa, Qb, Qc];have l2 : B ≤ g2 := Le (sz.out _ g) hg;replace g := sB.out _ _ g ((bx.mono hg).mono (sz.out _ g));clear bx hg;refine ⟨g, ?_⟩;exact j6 g2 w1 ⟨g, r2, l2⟩
               case tail =>
                rintro u w0 ⟨g, r1, l1⟩;refine wpAnyH_all (rs := [6, 15]) (by kernel_rfl) (by simp) (fun i hi => ?_);simp only [Lt, L0, or_false] at hi;rcases hi with rfl | rfl
                · skip;refine Qf rfl rfl (fun K2 j => ?_);refine Qq 34 #[.agg p.cells, .slice t.addr t.l.length t.cap, .int .i64 fuel] (w1 := w0) (by go_simp) ((JT p t.addr t.cap t.l fuel w0 bm.out ap.out (am.out _ (D1.out _ (D2.out _ (D3.out _ (D4.out _ (D5.out _ (D6.out _ (t0.out _ g)))))))) ((s.out _ (D1.out _ (D2.out _ (D3.out _ (D4.out _ (D5.out _ (D6.out _ (t0.out _ g)))))))) t aa.out).reads ((s.out _ (D1.out _ (D2.out _ (D3.out _ (D4.out _ (D5.out _ (D6.out _ (t0.out _ g)))))))) t aa.out).all).mono ?_);rintro e w1 ⟨rfl, bb⟩;refine ⟨_, rfl, ?_⟩;refine j _ _ ?_;clear j K2;simp only [Act.put, Qa, Qb, Qc];replace r1 := r1.below bb r1.lt;replace g := sB.out _ _ g (bb.mono (sz.out _ g));clear bb;refine ⟨g, ?_⟩;exact j5 u w1 ⟨g, r1, l1⟩
                · skip;refine Qf rfl rfl (fun K2 j => ?_);refine QO 37 rfl _ _ (JF _) rfl ?_;intro g2 w1 hg r2 bx;refine j _ _ ?_;clear j K2;simp only [Act.put, Qa, Qb, Qc];have l2 : B ≤ g2 := Le (sz.out _ g) hg;have ne : u ≠ g2 := by have := r1.lt; omega
                  replace r1 := r1.below (bx.mono hg) r1.lt;replace g := sB.out _ _ g ((bx.mono hg).mono (sz.out _ g));clear bx hg;refine ⟨g, ?_⟩;exact j7 u g2 w1 ⟨g, r1, l1, r2, l2, ne⟩
              case tail =>
               rintro g2 w0 ⟨g, r2, l2⟩;refine wpAnyH_all (rs := [6, 14]) (by kernel_rfl) (by simp) (fun i hi => ?_);simp only [Lt, L0, or_false] at hi;rcases hi with rfl | rfl
               · skip;refine Qf rfl rfl (fun K2 j => ?_);refine Qq 34 #[.agg p.cells, .slice t.addr t.l.length t.cap, .int .i64 fuel] (w1 := w0) (by go_simp) ((JT p t.addr t.cap t.l fuel w0 bm.out ap.out (am.out _ (D1.out _ (D2.out _ (D3.out _ (D4.out _ (D5.out _ (D6.out _ (t0.out _ g)))))))) ((s.out _ (D1.out _ (D2.out _ (D3.out _ (D4.out _ (D5.out _ (D6.out _ (t0.out _ g)))))))) t aa.out).reads ((s.out _ (D1.out _ (D2.out _ (D3.out _ (D4.out _ (D5.out _ (D6.out _ (t0.out _ g)))))))) t aa.out).all).mono ?_);rintro e w1 ⟨rfl, bb⟩;refine ⟨_, rfl, ?_⟩;refine j _ _ ?_;clear j K2;simp only [Act.put, Qa, Qb, Qc];replace r2 := r2.below bb r2.lt;replace g := sB.out _ _ g (bb.mono (sz.out _ g));clear bb;refine ⟨g, ?_⟩;exact j6 g2 w1 ⟨g, r2, l2⟩
               · skip;refine Qf rfl rfl (fun K2 j => ?_);refine QO 37 rfl _ _ (JF _) rfl ?_;intro u w1 hg r1 bx;refine j _ _ ?_;clear j K2;simp only [Act.put, Qa, Qb, Qc];have l1 : B ≤ u := Le (sz.out _ g) hg;have ne : u ≠ g2 := by have := r2.lt; omega
                 replace r2 := r2.below (bx.mono hg) r2.lt;replace g := sB.out _ _ g ((bx.mono hg).mono (sz.out _ g));clear bx hg;refine ⟨g, ?_⟩;exact j7 u g2 w1 ⟨g, r1, l1, r2, l2, ne⟩
             case tail =>
              rintro w0 g;refine wpAnyH_all (rs := [14, 15]) (by kernel_rfl) (by simp) (fun i hi => ?_);simp only [Lt, L0, or_false] at hi;rcases hi with rfl | rfl
              · skip;refine Qf rfl rfl (fun K2 j => ?_);refine QO 37 rfl _ _ (JF _) rfl ?_;intro u w1 hg r1 bx;refine j _ _ ?_;clear j K2;simp only [Act.put, Qa, Qb, Qc];have l1 : B ≤ u := Le (sz.out _ g) hg;replace g := sB.out _ _ g ((bx.mono hg).mono (sz.out _ g));clear bx hg;refine ⟨g, ?_⟩;exact j8 u w1 ⟨g, r1, l1⟩
              · skip;refine Qf rfl rfl (fun K2 j => ?_);refine QO 37 rfl _ _ (JF _) rfl ?_;intro g2 w1 hg r2 bx;refine j _ _ ?_;clear j K2;simp only [Act.put, Qa, Qb, Qc];have l2 : B ≤ g2 := Le (sz.out _ g) hg;replace g := sB.out _ _ g ((bx.mono hg).mono (sz.out _ g));clear bx hg;refine ⟨g, ?_⟩;exact j9 g2 w1 ⟨g, r2, l2⟩
            case tail =>
             rintro u w0 ⟨g, r1, l1⟩;refine wpAnyH_all (rs := [13, 15]) (by kernel_rfl) (by simp) (fun i hi => ?_);simp only [Lt, L0, or_false] at hi;rcases hi with rfl | rfl
             · skip;refine Qf rfl rfl (fun K2 j => ?_);refine Qq 34 #[.agg m.cells, .slice t.addr t.l.length t.cap, .int .i64 fuel] (w1 := w0) (by go_simp) ((JT m t.addr t.cap t.l fuel w0 a4.out ap.out (al.out _ (D6.out _ (t0.out _ g))) ((s.out _ (D1.out _ (D2.out _ (D3.out _ (D4.out _ (D5.out _ (D6.out _ (t0.out _ g)))))))) t aa.out).reads ((s.out _ (D1.out _ (D2.out _ (D3.out _ (D4.out _ (D5.out _ (D6.out _ (t0.out _ g)))))))) t aa.out).all).mono ?_);rintro e w1 ⟨rfl, bb⟩;refine ⟨_, rfl, ?_⟩;refine j _ _ ?_;clear j K2;simp only [Act.put, Qa, Qb, Qc];replace r1 := r1.below bb r1.lt;replace g := sB.out _ _ g (bb.mono (sz.out _ g));clear bb;refine ⟨g, ?_⟩;exact j8 u w1 ⟨g, r1, l1⟩
             · skip;refine Qf rfl rfl (fun K2 j => ?_);refine QO 37 rfl _ _ (JF _) rfl ?_;intro g2 w1 hg r2 bx;refine j _ _ ?_;clear j K2;simp only [Act.put, Qa, Qb, Qc];have l2 : B ≤ g2 := Le (sz.out _ g) hg;have ne : u ≠ g2 := by have := r1.lt; omega
               replace r1 := r1.below (bx.mono hg) r1.lt;replace g := sB.out _ _ g ((bx.mono hg).mono (sz.out _ g));clear bx hg;refine ⟨g, ?_⟩;exact b0 u g2 w1 ⟨g, r1, l1, r2, l2, ne⟩
           case tail =>
            rintro g2 w0 ⟨g, r2, l2⟩;refine wpAnyH_all (rs := [13, 14]) (by kernel_rfl) (by simp) (fun i hi => ?_);simp only [Lt, L0, or_false] at hi;rcases hi with rfl | rfl
            · skip;refine Qf rfl rfl (fun K2 j => ?_);refine Qq 34 #[.agg m.cells, .slice t.addr t.l.length t.cap, .int .i64 fuel] (w1 := w0) (by go_simp) ((JT m t.addr t.cap t.l fuel w0 a4.out ap.out (al.out _ (D6.out _ (t0.out _ g))) ((s.out _ (D1.out _ (D2.out _ (D3.out _ (D4.out _ (D5.out _ (D6.out _ (t0.out _ g)))))))) t aa.out).reads ((s.out _ (D1.out _ (D2.out _ (D3.out _ (D4.out _ (D5.out _ (D6.out _ (t0.out _ g)))))))) t aa.out).all).mono ?_);rintro e w1 ⟨rfl, bb⟩;refine ⟨_, rfl, ?_⟩;refine j _ _ ?_;clear j K2;simp only [Act.put, Qa, Qb, Qc];replace r2 := r2.below bb r2.lt;replace g := sB.out _ _ g (bb.mono (sz.out _ g));clear bb;refine ⟨g, ?_⟩;exact j9 g2 w1 ⟨g, r2, l2⟩
            · skip;refine Qf rfl rfl (fun K2 j => ?_);refine QO 37 rfl _ _ (JF _) rfl ?_;intro u w1 hg r1 bx;refine j _ _ ?_;clear j K2;simp only [Act.put, Qa, Qb, Qc];have l1 : B ≤ u := Le (sz.out _ g) hg;have ne : u ≠ g2 := by have := r2.lt; omega
              replace r2 := r2.below (bx.mono hg) r2.lt;replace g := sB.out _ _ g ((bx.mono hg).mono (sz.out _ g));clear bx hg;refine ⟨g, ?_⟩;exact b0 u g2 w1 ⟨g, r1, l1, r2, l2, ne⟩
          case tail =>
           rintro u g2 w0 ⟨g, r1, l1, r2, l2, ne⟩;(refine wpAnyH_all (rs := [6]) (by kernel_rfl) (by simp) (fun i hi => ?_); obtain rfl : i = 6 := by simpa using hi);refine Qf rfl rfl (fun K2 j => ?_);refine Qq 34 #[.agg p.cells, .slice t.addr t.l.length t.cap, .int .i64 fuel] (w1 := w0) (by go_simp) ((JT p t.addr t.cap t.l fuel w0 bm.out ap.out (am.out _ (D1.out _ (D2.out _ (D3.out _ (D4.out _ (D5.out _ (D6.out _ (t0.out _ g)))))))) ((s.out _ (D1.out _ (D2.out _ (D3.out _ (D4.out _ (D5.out _ (D6.out _ (t0.out _ g)))))))) t aa.out).reads ((s.out _ (D1.out _ (D2.out _ (D3.out _ (D4.out _ (D5.out _ (D6.out _ (t0.out _ g)))))))) t aa.out).all).mono ?_);rintro e w1 ⟨rfl, bb⟩;refine ⟨_, rfl, ?_⟩;refine j _ _ ?_;clear j K2;simp only [Act.put, Qa, Qb, Qc];replace r1 := r1.below bb r1.lt;replace r2 := r2.below bb r2.lt;replace g := sB.out _ _ g (bb.mono (sz.out _ g));clear bb;refine ⟨g, ?_⟩;exact b0 u g2 w1 ⟨g, r1, l1, r2, l2, ne⟩
         case tail =>
          rintro u w0 ⟨g, r1, l1⟩;(refine wpAnyH_all (rs := [15]) (by kernel_rfl) (by simp) (fun i hi => ?_); obtain rfl : i = 15 := by simpa using hi);refine Qf rfl rfl (fun K2 j => ?_);refine QO 37 rfl _ _ (JF _) rfl ?_;intro g2 w1 hg r2 bx;refine j _ _ ?_;clear j K2;simp only [Act.put, Qa, Qb, Qc];have l2 : B ≤ g2 := Le (sz.out _ g) hg;have ne : u ≠ g2 := by have := r1.lt; omega
          replace r1 := r1.below (bx.mono hg) r1.lt;replace g := sB.out _ _ g ((bx.mono hg).mono (sz.out _ g));clear bx hg;refine ⟨g, ?_⟩;exact b1 u g2 w1 ⟨g, r1, l1, r2, l2, ne⟩
        case tail =>
         rintro g2 w0 ⟨g, r2, l2⟩;(refine wpAnyH_all (rs := [14]) (by kernel_rfl) (by simp) (fun i hi => ?_); obtain rfl : i = 14 := by simpa using hi);refine Qf rfl rfl (fun K2 j => ?_);refine QO 37 rfl _ _ (JF _) rfl ?_;intro u w1 hg r1 bx;refine j _ _ ?_;clear j K2;simp only [Act.put, Qa, Qb, Qc];have l1 : B ≤ u := Le (sz.out _ g) hg;have ne : u ≠ g2 := by have := r2.lt; omega
         replace r2 := r2.below (bx.mono hg) r2.lt;replace g := sB.out _ _ g ((bx.mono hg).mono (sz.out _ g));clear bx hg;refine ⟨g, ?_⟩;exact b1 u g2 w1 ⟨g, r1, l1, r2, l2, ne⟩
       case tail =>
        rintro u g2 w0 ⟨g, r1, l1, r2, l2, ne⟩;(refine wpAnyH_all (rs := [13]) (by kernel_rfl) (by simp) (fun i hi => ?_); obtain rfl : i = 13 := by simpa using hi);refine Qf rfl rfl (fun K2 j => ?_);refine Qq 34 #[.agg m.cells, .slice t.addr t.l.length t.cap, .int .i64 fuel] (w1 := w0) (by go_simp) ((JT m t.addr t.cap t.l fuel w0 a4.out ap.out (al.out _ (D6.out _ (t0.out _ g))) ((s.out _ (D1.out _ (D2.out _ (D3.out _ (D4.out _ (D5.out _ (D6.out _ (t0.out _ g)))))))) t aa.out).reads ((s.out _ (D1.out _ (D2.out _ (D3.out _ (D4.out _ (D5.out _ (D6.out _ (t0.out _ g)))))))) t aa.out).all).mono ?_);rintro e w1 ⟨rfl, bb⟩;refine ⟨_, rfl, ?_⟩;refine j _ _ ?_;clear j K2;simp only [Act.put, Qa, Qb, Qc];replace r1 := r1.below bb r1.lt;replace r2 := r2.below bb r2.lt;replace g := sB.out _ _ g (bb.mono (sz.out _ g));clear bb;refine ⟨g, ?_⟩;exact b1 u g2 w1 ⟨g, r1, l1, r2, l2, ne⟩
      case tail =>
       rintro u g2 w0 ⟨g, r1, l1, r2, l2, ne⟩;(refine wpAnyH_all (rs := [16]) (by kernel_rfl) (by simp) (fun i hi => ?_); obtain rfl : i = 16 := by simpa using hi);refine Qf rfl rfl (fun K2 j => ?_);refine Zs 37 _ _ rfl u ((ZI ((Q8 p t.l fuel).out.getD (0, 0)).1 ((Q8 p t.l fuel).out.getD (0, 0)).2).toArray) rfl rfl 37 _ r1 (by kernel_rfl) rfl (Adl _ _) ?_;intro w1 rz oz;refine j _ _ ?_;clear j K2;simp only [Act.put, Qa, Qb, Qc];replace r2 := r2.only oz ne.symm;replace r1 := rz;replace g := sB.out _ _ g (oz.below l1);clear rz oz;refine ⟨g, ?_⟩;exact c9 u g2 w1 ⟨g, r1, l1, r2, l2, ne⟩
     case tail =>
      rintro u g2 w0 ⟨g, r1, l1, r2, l2, ne⟩;(refine wpAnyH_all (rs := [17]) (by kernel_rfl) (by simp) (fun i hi => ?_); obtain rfl : i = 17 := by simpa using hi);refine Qf rfl rfl (fun K2 j => ?_);refine Zs 37 _ _ rfl g2 ((ZI ((Q8 m t.l fuel).out.getD (0, 0)).1 ((Q8 m t.l fuel).out.getD (0, 0)).2).toArray) rfl rfl 37 _ r2 (by kernel_rfl) rfl (Adl _ _) ?_;intro w1 rz oz;refine j _ _ ?_;clear j K2;simp only [Act.put, Qa, Qb, Qc];replace r1 := r1.only oz ne;replace r2 := rz;replace g := sB.out _ _ g (oz.below l2);clear rz oz;refine ⟨g, ?_⟩;exact da u g2 w1 ⟨g, r1, l1, r2, l2, ne⟩
    case tail =>
     rintro u g2 w0 ⟨g, r1, l1, r2, l2, ne⟩;refine wpAnyH_done (by kernel_rfl) ?_ _;have o := t0.out _ g;clear g l1 l2 t0 sz sB;obtain ⟨S7, r⟩ : ∃ S : World → Prop, S = (fun W => S6 W ∧ Row W u 37 (ZI ((Q8 p t.l fuel).out.getD (0, 0)).1 ((Q8 p t.l fuel).out.getD (0, 0)).2).toArray ∧ Row W g2 37 (ZI ((Q8 m t.l fuel).out.getD (0, 0)).1 ((Q8 m t.l fuel).out.getD (0, 0)).2).toArray) := ⟨_, rfl⟩;have dt : St S7 := by rw [r]; infer_instance
     have D7 : Hid (∀ W, S7 W → S6 W) := by show ∀ W, _; rw [r]; exact fun W h => h.1
     have a6 : Hid (∀ W, S7 W → Row W u 37 (ZI ((Q8 p t.l fuel).out.getD (0, 0)).1 ((Q8 p t.l fuel).out.getD (0, 0)).2).toArray) := by show ∀ W, _; rw [r]; exact fun W h => h.2.1
     have a7 : Hid (∀ W, S7 W → Row W g2 37 (ZI ((Q8 m t.l fuel).out.getD (0, 0)).1 ((Q8 m t.l fuel).out.getD (0, 0)).2).toArray) := by show ∀ W, _; rw [r]; exact fun W h => h.2.2
     have ae : Hid (S7 w0) := by show S7 w0; rw [r]; exact ⟨o, r1, r2⟩
     clear r;clear o r1 r2 ne ab;have a5 : Hid ((rnZ p fuel t.l).kind = ((Q8 p t.l fuel).out.getD (0, 0)).1 ∧ (rnZ p fuel t.l).value = ((Q8 p t.l fuel).out.getD (0, 0)).2) := ⟨rfl, rfl⟩;have be : Hid ((rnZ m fuel t.l).kind = ((Q8 m t.l fuel).out.getD (0, 0)).1 ∧ (rnZ m fuel t.l).value = ((Q8 m t.l fuel).out.getD (0, 0)).2) := ⟨rfl, rfl⟩;generalize ((Q8 p t.l fuel).out.getD (0, 0)).1 = ka at *;generalize ((Q8 p t.l fuel).out.getD (0, 0)).2 = va at *;generalize ((Q8 m t.l fuel).out.getD (0, 0)).1 = kb at *;generalize ((Q8 m t.l fuel).out.getD (0, 0)).2 = vb at *;have cu := (a6.out _ ae.out).cellv (i := 0) (v := .int .i64 ka) rfl;have cv := (a7.out _ ae.out).cellv (i := 0) (v := .int .i64 kb) rfl;by_cases ha : ka = 4
     · have cy : (ka == 4) = true := by simpa using ha
       have hx : QT (rnZ p fuel t.l) (rnZ m fuel t.l) = 0 := by unfold QT; rw [a5.out.1, if_pos ha]
       have Hu := Lh (XL (fuel := fuel) (x := 0) Ht.out Hm.out (hx));go_wp2_with fail
       go_roundw
       case rel => exact ⟨k + 1, by go_num, by omega, (by rw [Hu.out, JA (.inl (by decide)), ← an.out]), (by rw [Hu.out, JA (.inl (by decide)), ← ao.out]), D7.out _ ae.out⟩
       case measure => simp [intOf]; omega
     have cy : (ka == 4) = false := by simpa using ha
     by_cases hb : kb = 4
     · have cz : (kb == 4) = true := by simpa using hb
       have c1 : (kb != 4) = false := by simpa using hb
       have hx : QT (rnZ p fuel t.l) (rnZ m fuel t.l) = 2 := by unfold QT; rw [a5.out.1, be.out.1, if_neg ha, if_pos hb]
       clear ha hb;by_cases hz : z2 < 0
       · skip;have Hu := Lh (XL (fuel := fuel) (x := 2) Ht.out Hm.out (hx));go_wp2_with fail
         go_roundw
         case rel => exact ⟨k + 1, by go_num, by omega, (by rw [Hu.out, JA (.inl (by decide)), ← an.out]), (by rw [Hu.out, Afd (by rw [← ao.out]; exact hz), Adx (by rw [L9]; exact hk)]), D7.out _ ae.out⟩
         case measure => simp [intOf]; omega
       · skip;have Hu := Lh (XL (fuel := fuel) (x := 2) Ht.out Hm.out (hx));go_wp2_with fail
         go_roundw
         case rel => exact ⟨k + 1, by go_num, by omega, (by rw [Hu.out, JA (.inl (by decide)), ← an.out]), (by rw [Hu.out, JA (.inr (by rw [← ao.out]; omega)), ← ao.out]), D7.out _ ae.out⟩
         case measure => simp [intOf]; omega
     have cz : (kb == 4) = false := by simpa using hb
     have c1 : (kb != 4) = true := by simpa using hb
     have hq := Vl ka va kb vb;clear cu cv;have cu := (a6.out _ ae.out).cellv (i := 0) (v := .int .i64 ka) rfl;have cv := (a7.out _ ae.out).cellv (i := 0) (v := .int .i64 kb) rfl;by_cases hn : kb = ka ∧ vb = va
     · have he : (!(ka == kb && va == vb)) = false := by simp [hn.1, hn.2]
       rw [he] at hq;have Hq := Lh hq;have hx : QT (rnZ p fuel t.l) (rnZ m fuel t.l) = 0 := by unfold QT; rw [a5.out.1, be.out.1, if_neg ha, if_neg hb, a5.out.2, be.out.2, if_pos hn]
       clear hq hn he ha hb;go_wp2_with (refine XT 37 _ rfl ?_)
       refine Stop.to ?_;refine Z8 S7 3 ae.out ?_;simp only [Lw, L5, Lv, L1];(refine QA rfl 37 _ rfl (u) rfl 37 _ _ (fun W hW => (a6.out _ hW)) Tryz.underlying37 rfl (by kernel_rfl) ?_; simp only [Act.put, Qa, Qb, Qc]);(refine QA rfl 37 _ rfl (g2) rfl 37 _ _ (fun W hW => (a7.out _ hW)) Tryz.underlying37 rfl (by kernel_rfl) ?_; simp only [Act.put, Qa, Qb, Qc]);refine Qg rfl (.bool false) (fun W _ => ZD rfl _ (run_eqGuard_agg _ _ _ _ _ _ _ (by kernel_rfl)) (Hq.out W)) ?_;simp only [Act.put, Qa, Qb, Qc];refine QG fun W9 ac => ?_
       clear ae;have ae : Hid (S7 W9) := ac;clear ac;have Hu := Lh (XL (fuel := fuel) (x := 0) Ht.out Hm.out (hx));go_wp2_with fail
       go_roundw
       case rel => exact ⟨k + 1, by go_num, by omega, (by rw [Hu.out, JA (.inl (by decide)), ← an.out]), (by rw [Hu.out, JA (.inl (by decide)), ← ao.out]), D7.out _ ae.out⟩
       case measure => simp [intOf]; omega
     have he : (!(ka == kb && va == vb)) = true := (Ajb ka va kb vb).2 hn;rw [he] at hq;have Hq := Lh hq;have hx : QT (rnZ p fuel t.l) (rnZ m fuel t.l) = 1 := by unfold QT; rw [a5.out.1, be.out.1, if_neg ha, if_neg hb, a5.out.2, be.out.2, if_neg hn]
     clear hq hn he ha hb;by_cases hz : z1 < 0
     · skip;go_wp2_with (refine XT 37 _ rfl ?_)
       refine Stop.to ?_;refine Z8 S7 3 ae.out ?_;simp only [Lw, L5, Lv, L1];(refine QA rfl 37 _ rfl (u) rfl 37 _ _ (fun W hW => (a6.out _ hW)) Tryz.underlying37 rfl (by kernel_rfl) ?_; simp only [Act.put, Qa, Qb, Qc]);(refine QA rfl 37 _ rfl (g2) rfl 37 _ _ (fun W hW => (a7.out _ hW)) Tryz.underlying37 rfl (by kernel_rfl) ?_; simp only [Act.put, Qa, Qb, Qc]);refine Qg rfl (.bool true) (fun W _ => ZD rfl _ (run_eqGuard_agg _ _ _ _ _ _ _ (by kernel_rfl)) (Hq.out W)) ?_;simp only [Act.put, Qa, Qb, Qc];refine QG fun W9 ac => ?_
       clear ae;have ae : Hid (S7 W9) := ac;clear ac;have Hu := Lh (XL (fuel := fuel) (x := 1) Ht.out Hm.out (hx));go_wp2_with fail
       go_roundw
       case rel => exact ⟨k + 1, by go_num, by omega, (by rw [Hu.out, Afd (by rw [← an.out]; exact hz), Adx (by rw [L9]; exact hk)]), (by rw [Hu.out, JA (.inl (by decide)), ← ao.out]), D7.out _ ae.out⟩
       case measure => simp [intOf]; omega
     · skip;go_wp2_with (refine XT 37 _ rfl ?_)
       refine Stop.to ?_;refine Z8 S7 3 ae.out ?_;simp only [Lw, L5, Lv, L1];(refine QA rfl 37 _ rfl (u) rfl 37 _ _ (fun W hW => (a6.out _ hW)) Tryz.underlying37 rfl (by kernel_rfl) ?_; simp only [Act.put, Qa, Qb, Qc]);(refine QA rfl 37 _ rfl (g2) rfl 37 _ _ (fun W hW => (a7.out _ hW)) Tryz.underlying37 rfl (by kernel_rfl) ?_; simp only [Act.put, Qa, Qb, Qc]);refine Qg rfl (.bool true) (fun W _ => ZD rfl _ (run_eqGuard_agg _ _ _ _ _ _ _ (by kernel_rfl)) (Hq.out W)) ?_;simp only [Act.put, Qa, Qb, Qc];refine QG fun W9 ac => ?_
       clear ae;have ae : Hid (S7 W9) := ac;clear ac;have Hu := Lh (XL (fuel := fuel) (x := 1) Ht.out Hm.out (hx));go_wp2_with fail
       go_roundw
       case rel => exact ⟨k + 1, by go_num, by omega, (by rw [Hu.out, JA (.inr (by rw [← an.out]; omega)), ← an.out]), (by rw [Hu.out, JA (.inl (by decide)), ← ao.out]), D7.out _ ae.out⟩
       case measure => simp [intOf]; omega
  · obtain rfl : k = ts.length := by omega
    have ab := Lh bg;have cd : (ts.map IntsV.l).take ts.length = ts.map IntsV.l := LH (by simp);rw [cd];clear bg ch hk cd;obtain ⟨z1, ay⟩ : ∃ z, z = JH 1 (Ko p d fuel (ts.map IntsV.l)) := ⟨_, rfl⟩;obtain ⟨z2, az⟩ : ∃ z, z = JH 2 (Ko p d fuel (ts.map IntsV.l)) := ⟨_, rfl⟩;rw [← ay, ← az];have an := Lh ay;have ao := Lh az;clear ay az;have cf : yA.m.d = d := by rw [Hj.out]; exact AbA
    have ct : Hid (decide (Jv yA.dl.d d = 0) = true) := by show decide (Jv yA.m.d d = 0) = true; rw [cf, UP]; rfl
    clear cf;go_wp2_with (refine XT 35 _ rfl ?_)
    refine Stop.to ?_;refine Z8 S6 3 ab.out ?_;simp only [Lw, L5, Lv, L1];(refine ZA rfl 35 _ rfl (⟨ax, 0, none⟩) rfl yA.dl.cells.toList _ (fun W hW => AhE (aj.out _ (D5.out _ (D6.out _ hW)))) Tryz.underlying35 rfl (by kernel_rfl) ?_; simp only [Act.put, Qa, Qb, Qc]);(refine QA rfl 35 _ rfl (a8) rfl 35 _ _ (fun W hW => (bk.out _ (D3.out _ (D4.out _ (D5.out _ (D6.out _ hW)))))) Tryz.underlying35 rfl (by kernel_rfl) ?_; simp only [Act.put, Qa, Qb, Qc]);(refine QI rfl 35 _ (fun W => by (go_simp; try rfl)) (.bool true) (fun W hW => by rw [← ct.out]; exact Ec yA.dl ⟨xA, xc, d⟩ W ((br.out _ (D5.out _ (D6.out _ hW)))).1.dl ⟨(aw.out _ (D1.out _ (D2.out _ (D3.out _ (D4.out _ (D5.out _ (D6.out _ hW))))))), Hd.out⟩) ?_; simp only [Act.put, Qa, Qb, Qc])
    refine QG fun W9 ac => ?_
    clear ab;have ab : Hid (S6 W9) := ac;clear ac;by_cases hz : 0 ≤ z1
    · obtain ⟨i, t, hi, ht, bp, bi⟩ := Afk 1 (.inl rfl) Hm.out (fun h => by cases h) (by rw [← an.out]; exact hz);have ah := Hj.out.trans bi;rw [← an.out] at hi;subst hi;have au : yA.m.verdict = 1 := by rw [ah]
      have av : yA.m.test = (i : Int) := by rw [ah]
      have a9 := Lh au;have ba := Lh av;have bd := Lh (Yk yA.m.kind yA.m.value yA.m.kind yA.m.value);have bf : Hid ((yA.m.kind == yA.m.kind && yA.m.value == yA.m.value) = true) := by show _ = _; simp
      have cs : Hid (AkH (Q8 m t.l fuel) = .agg (ZI yA.m.kind yA.m.value).toArray) := by show _ = _; rw [ah]; rfl
      have Ht := Lh ht;have aa : Hid (t ∈ ts) := Lg ht;have c2 : (i : Int) < (ts.length : Int) := by have := (La.1 ht).1; omega
      obtain ⟨ad, bv, _⟩ := JQ (ag.out _ (D1.out _ (D2.out _ (D3.out _ (D4.out _ (D5.out _ (D6.out _ ab.out))))))) ht;subst bv;have a4 : Hid (m.body.length ≤ 1000) := by show _ ≤ _; have := ca.out; have := bc.out; omega
      have ap : Hid (t.l.length ≤ 1000) := by show _ ≤ _; have := cb.out t aa.out; omega
      clear ah bi bp ht au av;go_wp2_with fail
      refine Jl S6 (by kernel_rfl) (by kernel_rfl) (St.drew ab.out) ?_
      iterate 3 (refine Qg rfl ?_ (fun W hW => ?_) ?_; rotate_left; (focus (go_simp; exact rfl)); simp only [Act.put, Qa, Qb, Qc])
      (refine Qg rfl ?_ (fun W hW => ?_) ?_; rotate_left; (focus (have c := (aj.out _ (D5.out _ (D6.out _ hW))).cellv (i := 3) (v := .int .i64 1) (by rw [← a9.out]; rfl); go_simp; exact rfl)); simp only [Act.put, Qa, Qb, Qc])
      iterate 4 (refine Qg rfl ?_ (fun W hW => ?_) ?_; rotate_left; (focus (go_simp; exact rfl)); simp only [Act.put, Qa, Qb, Qc])
      (refine Qg rfl ?_ (fun W hW => ?_) ?_; rotate_left; (focus (have c := (aj.out _ (D5.out _ (D6.out _ hW))).cellv (i := 4) (v := .int .i64 (i : Int)) (by rw [← ba.out]; rfl); go_simp; exact rfl)); simp only [Act.put, Qa, Qb, Qc]);(refine Qg rfl ?_ (fun W hW => ?_) ?_; rotate_left; (focus (go_simp; exact rfl)); simp only [Act.put, Qa, Qb, Qc]);(refine Qg rfl (.bool true) (fun W hW => by (go_simp; try simp)) ?_; simp only [Act.put, Qa, Qb, Qc])
      iterate 3 (refine Qg rfl ?_ (fun W hW => ?_) ?_; rotate_left; (focus (go_simp; exact rfl)); simp only [Act.put, Qa, Qb, Qc])
      (refine ZA rfl 37 _ rfl (⟨ax, 5, none⟩) rfl (ZI yA.m.kind yA.m.value) _ (fun W hW => Aez (aj.out _ (D5.out _ (D6.out _ hW)))) Tryz.underlying37 rfl (by kernel_rfl) ?_; simp only [Act.put, Qa, Qb, Qc]);(refine QA rfl 25 _ rfl (ar) rfl 25 _ _ (fun W hW => (b4.out _ hW)) Tryz.underlying25 rfl (by kernel_rfl) ?_; simp only [Act.put, Qa, Qb, Qc])
      iterate 3 (refine Qg rfl ?_ (fun W hW => ?_) ?_; rotate_left; (focus (go_simp; exact rfl)); simp only [Act.put, Qa, Qb, Qc])
      (refine Qg rfl ?_ (fun W hW => ?_) ?_; rotate_left; (focus ((have c := (by obtain ⟨a2, e2, h2⟩ := JQ (ag.out _ (D1.out _ (D2.out _ (D3.out _ (D4.out _ (D5.out _ (D6.out _ hW))))))) Ht.out; injection e2 with e2; rw [e2]; exact h2 : W.cell? (ad.add i) = some (.slice t.addr t.l.length t.cap))); go_simp; exact rfl)); simp only [Act.put, Qa, Qb, Qc]);(refine Qg rfl ?_ (fun W hW => ?_) ?_; rotate_left; (focus (go_simp; exact rfl)); simp only [Act.put, Qa, Qb, Qc]);(refine QI rfl 34 _ (fun W => by (go_simp; try rfl)) ((.agg (ZI yA.m.kind yA.m.value).toArray)) (fun W hW => by rw [← cs.out]; exact JT m t.addr t.cap t.l fuel W a4.out ap.out (al.out _ (D6.out _ hW)) ((s.out _ (D1.out _ (D2.out _ (D3.out _ (D4.out _ (D5.out _ (D6.out _ hW))))))) t aa.out).reads ((s.out _ (D1.out _ (D2.out _ (D3.out _ (D4.out _ (D5.out _ (D6.out _ hW))))))) t aa.out).all) ?_; simp only [Act.put, Qa, Qb, Qc])
      refine Qg rfl (.bool true) (fun W _ => ZD rfl _ (run_eqGuard_agg _ _ _ _ _ _ _ (by kernel_rfl)) (by rw [← bf.out]; exact bd.out W)) ?_;simp only [Act.put, Qa, Qb, Qc]
      iterate 2 (refine Qg rfl ?_ (fun W hW => ?_) ?_; rotate_left; (focus (go_simp; exact rfl)); simp only [Act.put, Qa, Qb, Qc])
      refine QG fun W9 ac => ?_
      clear ab;have ab : Hid (S6 W9) := ac;clear ac;go_wp2_with fail
      go_ret
      exact ⟨rfl, (ak.out _ (D1.out _ (D2.out _ (D3.out _ (D4.out _ (D5.out _ (D6.out _ ab.out)))))))⟩
    have c8 : z1 < 0 := by omega
    have ds : ¬ z1 ≥ 0 := hz;by_cases hy : 0 ≤ z2
    · obtain ⟨i, t, hi, ht, bp, bi⟩ := Afk 2 (.inr rfl) Hm.out (fun _ => by rw [← an.out]; exact c8) (by rw [← ao.out]; exact hy);have ah := Hj.out.trans bi;rw [← ao.out] at hi;subst hi;have bw := (tells_2.1 bp).2;have cn := Lg ht;have co := AhZ (al.out _ (D6.out _ ab.out)) ((s.out _ (D1.out _ (D2.out _ (D3.out _ (D4.out _ (D5.out _ (D6.out _ ab.out))))))) t cn).all bw;have au : yA.m.verdict = 2 := by rw [ah]
      have av : yA.m.test = (i : Int) := by rw [ah]
      have a9 := Lh au;have ba := Lh av;have bd := Lh (Yk yA.m.kind yA.m.value 4 0);have bf : Hid ((yA.m.kind == 4 && yA.m.value == 0) = true) := by show _ = _; rw [ah]; simp only [bw, show (rnZ m fuel t.l).value = 0 from co]; rfl
      clear ah bi bp ht au av bw co cn;have c3 := (aj.out _ (D5.out _ (D6.out _ ab.out))).cellv (i := 3) (v := .int .i64 yA.m.verdict) rfl;have c4 := (aj.out _ (D5.out _ (D6.out _ ab.out))).cellv (i := 4) (v := .int .i64 yA.m.test) rfl;rw [a9.out] at c3;rw [ba.out] at c4;go_wp2_with (refine XT 37 _ rfl ?_)
      refine Stop.to ?_;refine Z8 S6 3 ab.out ?_;simp only [Lw, L5, Lv, L1];clear c3 c4;(refine ZA rfl 37 _ rfl (⟨ax, 5, none⟩) rfl (ZI yA.m.kind yA.m.value) _ (fun W hW => Aez (aj.out _ (D5.out _ (D6.out _ hW)))) Tryz.underlying37 rfl (by kernel_rfl) ?_; simp only [Act.put, Qa, Qb, Qc]);(refine Qg rfl (.agg (ZI 4 0).toArray) (fun W hW => by (go_simp; try exact rfl)) ?_; simp only [Act.put, Qa, Qb, Qc])
      refine Qg rfl (.bool true) (fun W _ => ZD rfl _ (run_eqGuard_agg _ _ _ _ _ _ _ (by kernel_rfl)) (by rw [← bf.out]; exact bd.out W)) ?_;simp only [Act.put, Qa, Qb, Qc];refine QG fun W9 ac => ?_
      clear ab;have ab : Hid (S6 W9) := ac;clear ac;go_wp2_with fail
      go_ret
      exact ⟨rfl, (ak.out _ (D1.out _ (D2.out _ (D3.out _ (D4.out _ (D5.out _ (D6.out _ ab.out)))))))⟩
    have dr : ¬ z2 ≥ 0 := hy;have ah : yA.m = ⟨d, 0, -1, 0, 0, []⟩ := by rw [Hj.out, Er, if_neg (by rw [← an.out]; exact hz), if_neg (by rw [← ao.out]; exact hy)]
    have au : yA.m.verdict = 0 := by rw [ah]
    have av : yA.m.test = -1 := by rw [ah]
    have a9 := Lh au;have ba := Lh av;have bd := Lh (Yk yA.m.kind yA.m.value 0 0);have cg : yA.m.digest = [] := by rw [ah]
    have cr := Lh cg;have bf : Hid ((yA.m.kind == 0 && yA.m.value == 0) = true) := by show _ = _; rw [ah]; rfl
    clear ah au av cg;have c3 := (aj.out _ (D5.out _ (D6.out _ ab.out))).cellv (i := 3) (v := .int .i64 yA.m.verdict) rfl;have c4 := (aj.out _ (D5.out _ (D6.out _ ab.out))).cellv (i := 4) (v := .int .i64 yA.m.test) rfl;rw [a9.out] at c3;rw [ba.out] at c4;go_wp2_with (refine XT 37 _ rfl ?_)
    refine Stop.to ?_;refine Z8 S6 3 ab.out ?_;simp only [Lw, L5, Lv, L1];clear c3 c4;(refine ZA rfl 37 _ rfl (⟨ax, 5, none⟩) rfl (ZI yA.m.kind yA.m.value) _ (fun W hW => Aez (aj.out _ (D5.out _ (D6.out _ hW)))) Tryz.underlying37 rfl (by kernel_rfl) ?_; simp only [Act.put, Qa, Qb, Qc]);(refine Qg rfl (.agg (ZI 0 0).toArray) (fun W hW => by (go_simp; try exact rfl)) ?_; simp only [Act.put, Qa, Qb, Qc])
    refine Qg rfl (.bool true) (fun W _ => ZD rfl _ (run_eqGuard_agg _ _ _ _ _ _ _ (by kernel_rfl)) (by rw [← bf.out]; exact bd.out W)) ?_;simp only [Act.put, Qa, Qb, Qc];refine QG fun W9 ac => ?_
    clear ab;have ab : Hid (S6 W9) := ac;clear ac;have c7 := (aj.out _ (D5.out _ (D6.out _ ab.out))).cellv (i := 7) (v := .string ⟨yA.m.digest.toArray⟩) rfl;rw [cr.out] at c7;go_wp2_with fail
    go_ret
    exact ⟨rfl, (ak.out _ (D1.out _ (D2.out _ (D3.out _ (D4.out _ (D5.out _ (D6.out _ ab.out)))))))⟩
end Go.Proofs.YtdcmppdhdcjpfaaGreat
