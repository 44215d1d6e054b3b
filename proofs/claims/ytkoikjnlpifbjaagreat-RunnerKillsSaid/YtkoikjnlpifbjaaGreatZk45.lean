/- Lemmas for RunnerKillsP. -/
import Derived.Test.YtkoikjnlpifbjaaGreatZk1
import Derived.Test.YtkoikjnlpifbjaaGreatZk38
import Derived.Test.YtkoikjnlpifbjaaGreatZk39
import Derived.Test.YtkoikjnlpifbjaaGreatZk44
set_option linter.unusedVariables false
set_option linter.unusedSimpArgs false
set_option maxRecDepth 100000
set_option maxHeartbeats 16000000
namespace Go.Proofs.YtkoikjnlpifbjaaGreat
open Go.RowKit Go.Deep
theorem JQ (w:World):(zeroValue 52).run Tryz.prog w=.ok (.agg (Jv 0 0).toArray) w:=by kernel_rfl
theorem AdX (k v:Int):(Jv k v).toArray.all (·.oneCell')=true:=by simp[Jv,Value.oneCell']
theorem AfF{P:Program}{md:Region.Mode}{o:Array Oper}{Q:Exit->Act->World->Prop}{S:World->Prop}{n:Nat}{L:Array Bool}{f:PgV->Nat->Act}{F:PgV->Nat->World->Prop}{G:Prop}
 (main:(∀(m:PgV) (C:Nat) W,F m C W->wpAnyH P md o Q S n L (f m C) W)->G) (tail:∀(m:PgV) (C:Nat) W,F m C W->wpAnyH P md o Q S n L (f m C) W):G:=main tail
theorem AbK{P:Program}{md:Region.Mode}{o:Array Oper}{Q:Exit->Act->World->Prop}{S:World->Prop}{n:Nat}{L:Array Bool}{f:Act}{F:World->Prop}{G:Prop}
 (main:(∀W,F W->wpAnyH P md o Q S n L (f ) W)->G) (tail:∀W,F W->wpAnyH P md o Q S n L (f ) W):G:=main tail
theorem Xe{P:Program}{md:Region.Mode}{o:Array Oper}{Q:Exit->Act->World->Prop}{S:World->Prop}{n:Nat}{L:Array Bool}{f:Nat->Act}{F:Nat->World->Prop}{G:Prop}
 (main:(∀(g0:Nat) W,F g0 W->wpAnyH P md o Q S n L (f g0) W)->G) (tail:∀(g0:Nat) W,F g0 W->wpAnyH P md o Q S n L (f g0) W):G:=main tail
theorem X6{P:Program}{md:Region.Mode}{o:Array Oper}{Q:Exit->Act->World->Prop}{S:World->Prop}{n:Nat}{L:Array Bool}{f:Nat->Nat->Act}{F:Nat->Nat->World->Prop}{G:Prop}
 (main:(∀(g0:Nat) (g1:Nat) W,F g0 g1 W->wpAnyH P md o Q S n L (f g0 g1) W)->G) (tail:∀(g0:Nat) (g1:Nat) W,F g0 g1 W->wpAnyH P md o Q S n L (f g0 g1) W):G:=main tail
theorem Vs (p:PgV)(t:TsV)(fuel:Int)(hfuelI: -9223372036854775808<=fuel/\fuel<=9223372036854775807)(n:Int)(hnI: -9223372036854775808<=n/\n<=9223372036854775807)(k:Int)(hkI: -9223372036854775808<=k/\k<=9223372036854775807)(w:World)(hok:p.ok w)(ht:TsRaw w t):Calls Tryz.prog 5 #[p.val,t.val,.int .i64 fuel,.int .i64 n,.int .i64 k] w λe w'=>e=.returned (.bool true)/\Below w.heap.size w w':=by
 obtain⟨tA,an,ts⟩:=t;obtain⟨cg,ch,ci,cj,ck⟩:=ht;rw[show(TsV.mk tA an ts).val=.slice tA ts.length an from rfl];have dg:Hid (ts.length<=an/\an<=maxLen/\(tA=none->an=0)):=⟨cg,ch,ci⟩;rw[show p.val=.agg p.cells from rfl];go_enter Tryz.func5,Tryz.ntmps5
 obtain⟨S0,db,ce,ab,ai,au,s⟩:=Al1 (w:=w) (λW=>Below w.heap.size w W) (λW=>p.ok W) (λW=>Rd W tA (Jo ts)) (λW=>(∀y∈ts,y.ok W)) (Below.refl _ _) (hok) (cj) (ck);clear cg ch ci cj ck hok;go_wp2_with (refine Qq _ _ rfl ?_)
 refine Stop.to ?_;refine Qe rfl 25 _ rfl p.cells rfl ?_;intro bg co hG rG bG;have q:=db.go ce.out (bG.mono hG);obtain⟨S1,bp,ag,D1,bl⟩:=EJ (w:=co) S0 (λW=>Row W bg 25 p.cells) q (rG);clear q ce hG rG bG;go_wp2_with fail
 refine(Ael co).mono ?_;rintro e dd ⟨rfl,bb⟩;have q:=bp.go ag.out (bb);replace ag:=Lh q;clear q bb;go_wp2_with (refine wpList_load_row rfl 25 _ rfl bg rfl 25 p.cells (0,0) _ (bl.out _ ag.out) Tryz.underlying25 rfl (by kernel_rfl) ?_)
 refine(AgH p tA an ts fuel dd (au.out _ (D1.out _ ag.out))).mono ?_;rintro e cp ⟨he,bb⟩;have q:=bp.go ag.out (bb);replace ag:=Lh q;clear q bb;rcases he with rfl|⟨rfl,fp⟩
 ·skip;go_wp2_with fail
  go_ret
  exact⟨rfl,(ab.out _ (D1.out _ ag.out))⟩
 have av:=Lh fp;clear fp;have de:(ts.length:Int)<=3:=by have:=av.out.tl;omega
 have cx:Hid (∀x∈ts,x.l.length<=40):=(AjP av.out.v).2.2.2.1;obtain⟨z1,cl⟩:∃z,z=Zo p (List.map IntsV.l ts) fuel:=⟨_,rfl⟩;have Hz:=Lh cl.symm;clear cl;by_cases h0:z1=0;rotate_left
 ·have dh:(z1 != 0)=true:=by simpa using h0
  go_wp2_with (refine wpList_load_row rfl 25 _ rfl bg rfl 25 p.cells (0,0) _ (bl.out _ ag.out) Tryz.underlying25 rfl (by kernel_rfl) ?_)
  refine(Ack p tA an ts fuel cp (ai.out _ (D1.out _ ag.out)) (by have:=av.out.body;omega) (au.out _ (D1.out _ ag.out)) (s.out _ (D1.out _ ag.out)) (by have:=av.out.tl;omega)).mono ?_;rintro e cq ⟨ay, -,bb⟩;obtain rfl:=ay (by rw[Hz.out];exact h0);rw[Hz.out];have q:=bp.go ag.out (bb);replace ag:=Lh q;clear q bb ay h0;go_wp2_with (refine QH _ rfl ?_)
  refine Stop.to ?_;refine Qj rfl 38 rfl _ _ (K6 _) rfl ?_;intro cd ds hG rG bG;go_wp2_with (refine Qs _ _ _ rfl ?_)
  refine Stop.to ?_;refine Qk rfl 38 _ _ rfl cd cp0.cells rfl rfl 38 _ rG (by kernel_rfl) rfl (by simp[CpV.cells,cp0,Value.oneCell']) ?_;intro cr rH oH;have bH:Below (cq).heap.size cq cr:=(bG.mono hG).trans (oH.below hG);have q:=bp.go ag.out (bH);obtain⟨S2,cn,bq,D2,a9⟩:=EJ (w:=cr) S1 (λW=>Row W cd 38 cp0.cells) q (rH);clear q ag hG rG bG rH oH bH;go_wp2_with fail
  go_ret
  exact⟨rfl,(ab.out _ (D1.out _ (D2.out _ bq.out)))⟩
 obtain⟨⟨tr,bz⟩, -⟩:=Aa4 (Hz.out.trans h0);replace Hz:=Lh (Hz.out.trans h0);subst h0;have ct:=Lh bz;go_wp2_with (refine wpList_load_row rfl 25 _ rfl bg rfl 25 p.cells (0,0) _ (bl.out _ ag.out) Tryz.underlying25 rfl (by kernel_rfl) ?_)
 refine(Ack p tA an ts fuel cp (ai.out _ (D1.out _ ag.out)) (by have:=av.out.body;omega) (au.out _ (D1.out _ ag.out)) (s.out _ (D1.out _ ag.out)) (by have:=av.out.tl;omega)).mono ?_;rintro e cc ⟨-,b2,bb⟩;obtain⟨c,rfl,cm,hd⟩:=b2 Hz.out;have Hd:Hid (c.data=⟨p.params,p.V,p.body,List.map IntsV.l ts,fuel,(Ze p.body tr).map (λd=>QV p d (List.map IntsV.l ts) fuel),QF ((Ze p.body tr).map λd=>QV p d (List.map IntsV.l ts) fuel)⟩):=hd tr bz;have HF:Hid (CampF p tr c):=Aey (ai.out _ (D1.out _ ag.out)) Hz.out bz av.out.body (λl hl a ha=>by obtain⟨x,hx,rfl⟩:=LK.1 hl;exact((s.out _ (D1.out _ ag.out)) x hx).all a ha) Hd.out;clear hd bz;have q:=bp.go ag.out (bb);obtain⟨S2,cn,bq,D2,af⟩:=EJ (w:=cc) S1 (λW=>CpOk W c) q (cm);clear q ag bb b2 cm;go_wp2_with (refine QH _ rfl ?_)
 refine Stop.to ?_;refine Qj rfl 38 rfl _ _ (K6 _) rfl ?_;intro bm df hG rG bG;go_wp2_with (refine Qs _ _ _ rfl ?_)
 refine Stop.to ?_;refine Qk rfl 38 _ _ rfl bm c.cells rfl rfl 38 _ rG (by kernel_rfl) rfl (by simp[CpV.cells,Value.oneCell']) ?_;intro bf rH oH;have bH:Below (cc).heap.size cc bf:=(bG.mono hG).trans (oH.below hG);have q:=cn.go bq.out (bH);obtain⟨S3,dq,a3,D3,a9⟩:=EJ (w:=bf) S2 (λW=>Row W bm 38 c.cells) q (rH);clear q bq hG rG bG rH oH bH;have dm:(c.mts.length:Int)<=2000:=by have:=HF.out.ok.len;have h:c.muts.length=c.mts.length:=Lu _;omega
 have c5:=(a9.out _ a3.out).cellv (i:=5) (v:=.slice c.mA c.mts.length c.mcap) rfl;by_cases c4:n<0
 ·skip;go_wp2_with fail
  go_ret
  exact⟨rfl,(ab.out _ (D1.out _ (D2.out _ (D3.out _ a3.out))))⟩
 have dn:0<=n:=by omega
 by_cases c6:n>=(c.mts.length:Int)
 ·skip;go_wp2_with fail
  go_ret
  exact⟨rfl,(ab.out _ (D1.out _ (D2.out _ (D3.out _ a3.out))))⟩
 have dp:n<(c.mts.length:Int):=by omega
 by_cases c2:k<0
 ·skip;go_wp2_with fail
  go_ret
  exact⟨rfl,(ab.out _ (D1.out _ (D2.out _ (D3.out _ a3.out))))⟩
 have dj:0<=k:=by omega
 by_cases c3:k>=(ts.length:Int)
 ·skip;go_wp2_with fail
  go_ret
  exact⟨rfl,(ab.out _ (D1.out _ (D2.out _ (D3.out _ a3.out))))⟩
 have dk:k<(ts.length:Int):=by omega
 obtain⟨i,rfl⟩:∃m:Nat,n=(m:Int):=⟨n.toNat,by omega⟩;obtain⟨k,rfl⟩:∃m:Nat,k=(m:Int):=⟨k.toNat,by omega⟩;obtain⟨y,hy⟩:∃y,c.mts[i]? =some y:=⟨_,Lb (by omega)⟩;obtain⟨t,ht⟩:∃x,ts[k]? =some x:=⟨_,Lb (by omega)⟩;have b7:=AhK Hd.out hy;have aw:=Lh hy;have bc:=Lh b7.2;have Ht:=Lh ht;have ae:Hid (t∈ts):=Lf ht;have bu:Hid (mutC p y.m.d=0):=Afc ct.out b7.1;obtain⟨ad,c0, -⟩:=Jt (au.out _ (D1.out _ (D2.out _ (D3.out _ a3.out)))) ht;obtain⟨am,b6, -⟩:=KW (c:=MtV.cells) (sz:=8) (λ_=>rfl) (by decide) (af.out _ (D3.out _ a3.out)).mrd hy;have ap:=Lh b6;subst c0;rw[b6]at c5;clear c4 c6 c2 c3 hy b7 ht b6;go_wp2_with fail
 clear c5;obtain⟨ao,b5⟩:∃V,V=(bf).drew:=⟨_,rfl⟩;obtain⟨bd,t0,be,tB,ak⟩:=exT (w:=ao) (b5▸St.drew a3.out:S3 ao);refine wp_region_held (S:=bd) (by kernel_rfl) ?_;simp only[Lk,Lc,Lo,Nat.reduceAdd,Li,Lj,Lp,Lm,Ll];show wpAnyH _ _ _ _ _ _ _ _ (bf).drew;rw[<-b5];clear b5 a3;(refine tkH 0 _ rfl ((ZT rfl 25 _ rfl bg rfl 25 p.cells _ (λW hW=>(bl.out _ (D2.out _ (D3.out _ (t0.out _ hW))))) Tryz.underlying25 rfl (by kernel_rfl))) ?_;simp only[Act.put,Qa,Qb,Qc]);(refine tkH 1 (.pointer (some ⟨bm,5,none⟩)) rfl (Qd rfl (λW hW=>by(go_simp))) ?_;simp only[Act.put,Qa,Qb,Qc]);(refine tkH 2 (.slice (some am) c.mts.length c.mcap) rfl (Qd rfl (λW hW=>by((have c9:=((a9.out _ (t0.out _ hW)).cellv (i:=5) (v:=.slice (some am) c.mts.length c.mcap) (by show some (Value.slice c.mA c.mts.length c.mcap)=_;rw[ap.out]));go_simp)))) ?_;simp only[Act.put,Qa,Qb,Qc]);(refine tkH 3 (.int .i64 (i:Int)) rfl (Qd rfl (λW hW=>by(go_simp))) ?_;simp only[Act.put,Qa,Qb,Qc]);(refine tkH 4 (.pointer (some (am.add (i*8)))) rfl (Qd rfl (λW hW=>by(go_simp))) ?_;simp only[Act.put,Qa,Qb,Qc]);(refine tkH 5 (.pointer (some (am.add (i*8)))) rfl (Qd rfl (λW hW=>by(go_simp))) ?_;simp only[Act.put,Qa,Qb,Qc]);(refine tkH 6 _ rfl (JI rfl 50 _ rfl (am.add (i*8)) rfl [.slice y.A y.m.d.path.length y.cap,.int .i64 y.m.d.op,.int .i64 y.m.d.n] _ (λW hW=>Ak2 (by obtain⟨a2,e2,h2⟩:=KW (c:=MtV.cells) (sz:=8) (λ_=>rfl) (by decide) ((af.out _ (D3.out _ (t0.out _ hW)))).mrd aw.out;rw[ap.out]at e2;injection e2 with e2;rw[e2];exact h2)) Tryz.underlying50 rfl (by kernel_rfl)) ?_;simp only[Act.put,Qa,Qb,Qc]);apply AfF (F:=λm ah W=>bd W/\Row W ah 25 #[.int .i64 0,.slice none 0 0,.slice none 0 0]/\ao.heap.size<=ah/\IsMut p y.m.d m/\m.body.length<=p.body.length+1/\((Qi m.V≠[]->∀a,m.va=some a->¬a.block=ah)/\(m.body.flatMap Nd.cells≠[]->∀a,m.ba=some a->¬a.block=ah))/\m.ok W)
 case main=>
  intro tJ;refine wpAnyH_all (rs:=[7,11]) (by kernel_rfl) (by simp) (λi hi=>?_);simp only[Ls,Lw,or_false]at hi;rcases hi with rfl|rfl
  ·skip;refine Qf rfl rfl (λK2 g=>?_);refine Qo 21 #[.agg p.cells,.agg #[.slice y.A y.m.d.path.length y.cap,.int .i64 y.m.d.op,.int .i64 y.m.d.n]] (w1:=ao) (by go_simp) ((Yj p y.dl ao (ai.out _ (D1.out _ (D2.out _ (D3.out _ (t0.out _ ak))))) (((af.out _ (D3.out _ (t0.out _ ak)))).mok y (Lf aw.out)).dl (by have:=av.out.body;omega)).mono ?_);rintro e ax ⟨m,rfl,hm, -,bb⟩;refine⟨_,rfl,?_⟩;refine g _ _ ?_;clear g K2;simp only[Act.put,Qa,Qb,Qc];obtain⟨a7,okm,a8,b8⟩:=hm bu.out;rw[show mutC p y.dl.d=0 from bu.out];have aa:bd ax:=tB.out _ _ ak (bb.mono (be.out _ ak));clear bb hm;refine⟨aa,?_⟩;(refine tkH 8 (.tuple #[.agg m.cells,.int .i64 0]) rfl (Qd rfl (λW hW=>by(go_simp))) ?_;simp only[Act.put,Qa,Qb,Qc]);(refine tkH 9 (.agg m.cells) rfl (Qd rfl (λW hW=>by(go_simp))) ?_;simp only[Act.put,Qa,Qb,Qc]);(refine tkH 10 (.int .i64 0) rfl (Qd rfl (λW hW=>by(go_simp))) ?_;simp only[Act.put,Qa,Qb,Qc]);(refine wpAnyH_all (rs:=[11]) (by kernel_rfl) (by simp) (λi hi=>?_);obtain rfl:i=11:=by simpa using hi);refine Qf rfl rfl (λK2 g=>?_);refine QD 25 rfl _ _ KT rfl ?_;intro ah a4 hC rC bC;refine g _ _ ?_;clear g K2;simp only[Act.put,Qa,Qb,Qc];have bj:ao.heap.size<=ah:=Ld (be.out _ aa) hC;replace a7:=a7;replace a8:=a8;replace bk:=(show((Qi m.V≠[]->∀a,m.va=some a->¬a.block=ah)/\(m.body.flatMap Nd.cells≠[]->∀a,m.ba=some a->¬a.block=ah))from⟨λhn a e h=>by have:=KY okm.vrd hn e;omega,λhn a e h=>by have:=KY okm.brd hn e;omega⟩);replace okm:=okm.go (bC.mono hC);have aq:bd a4:=tB.out _ _ aa ((bC.mono hC).mono (be.out _ aa));clear bC hC aa;refine⟨aq,?_⟩;exact tJ m ah _ ⟨aq,rC,bj,a7,a8,bk,okm⟩
  ·skip;refine Qf rfl rfl (λK2 g=>?_);refine QD 25 rfl _ _ KT rfl ?_;intro ah ax hC rC bC;refine g _ _ ?_;clear g K2;simp only[Act.put,Qa,Qb,Qc];have bj:ao.heap.size<=ah:=Ld (be.out _ ak) hC;have aa:bd ax:=tB.out _ _ ak ((bC.mono hC).mono (be.out _ ak));clear bC hC;refine⟨aa,?_⟩;have di:=rC.lt;(refine wpAnyH_all (rs:=[7]) (by kernel_rfl) (by simp) (λi hi=>?_);obtain rfl:i=7:=by simpa using hi);refine Qf rfl rfl (λK2 g=>?_);refine Qo 21 #[.agg p.cells,.agg #[.slice y.A y.m.d.path.length y.cap,.int .i64 y.m.d.op,.int .i64 y.m.d.n]] (w1:=ax) (by go_simp) ((Yj p y.dl ax (ai.out _ (D1.out _ (D2.out _ (D3.out _ (t0.out _ aa))))) (((af.out _ (D3.out _ (t0.out _ aa)))).mok y (Lf aw.out)).dl (by have:=av.out.body;omega)).mono ?_);rintro e a4 ⟨m,rfl,hm, -,bb⟩;refine⟨_,rfl,?_⟩;refine g _ _ ?_;clear g K2;simp only[Act.put,Qa,Qb,Qc];obtain⟨a7,okm,a8,b8⟩:=hm bu.out;rw[show mutC p y.dl.d=0 from bu.out];replace rC:=rC.below bb rC.lt;have aq:bd a4:=tB.out _ _ aa (bb.mono (be.out _ aa));clear bb aa hm;refine⟨aq,?_⟩;(refine tkH 8 (.tuple #[.agg m.cells,.int .i64 0]) rfl (Qd rfl (λW hW=>by(go_simp))) ?_;simp only[Act.put,Qa,Qb,Qc]);(refine tkH 9 (.agg m.cells) rfl (Qd rfl (λW hW=>by(go_simp))) ?_;simp only[Act.put,Qa,Qb,Qc]);(refine tkH 10 (.int .i64 0) rfl (Qd rfl (λW hW=>by(go_simp))) ?_;simp only[Act.put,Qa,Qb,Qc]);have bk:=(show((Qi m.V≠[]->∀a,m.va=some a->¬a.block=ah)/\(m.body.flatMap Nd.cells≠[]->∀a,m.ba=some a->¬a.block=ah))from⟨λ_ a e h=>by have:=b8 a (.inl e);omega,λ_ a e h=>by have:=b8 a (.inr e);omega⟩);exact tJ m ah _ ⟨aq,rC,bj,a7,a8,bk,okm⟩
 case tail=>
  rintro m ah a4 ⟨h2,rC,bj,a7,a8,bk,okm⟩;(refine wpAnyH_all (rs:=[12]) (by kernel_rfl) (by simp) (λi hi=>?_);obtain rfl:i=12:=by simpa using hi);refine Qf rfl rfl (λK2 g=>?_);refine Q6 25 _ _ rfl ah m.cells rfl rfl 25 _ rC (by kernel_rfl) rfl (by simp[PgV.cells,Value.oneCell']) ?_;intro aj r9 o9;refine g _ _ ?_;clear g K2;simp only[Act.put,Qa,Qb,Qc];have h9:bd aj:=tB.out _ _ h2 (o9.below bj);have q:=t0.out _ h9;have cb:=okm.kx bk.1 bk.2 (KpX.only (X:=λk=>k=ah) o9 rfl);refine⟨h9,?_⟩;(refine tkH 13 (.int .i64 0) rfl (Qd rfl (λW hW=>by(go_simp))) ?_;simp only[Act.put,Qa,Qb,Qc]);have Hm:=Lh a7;have cw:=Lh a8;clear a7 a8;refine wpAnyH_done (by kernel_rfl) ?_ _;obtain⟨S4,dc,cf,D4,cs,a1⟩:=AjN (w:=aj) S3 (λW=>Row W ah 25 m.cells) (λW=>m.ok W) q (r9) (cb);clear h2 bj h9 t0 be tB;go_wp2_with fail
  obtain⟨B,bw⟩:∃B,B=(aj).heap.size:=⟨_,rfl⟩;obtain⟨T,bn⟩:∃T:World->Prop,T=(λW=>Below B (aj) W):=⟨_,rfl⟩;have t0:Hid (∀W,T W->S4 W):=by show ∀W,_;rw[bn,bw];exact λW h=>dc.go cf.out h
  have sz:Hid (∀W,T W->B<=W.heap.size):=by show ∀W,_;rw[bn,bw];exact λW h=>h.size
  have sB:Hid (∀W W',T W->Below B W W'->T W'):=by show ∀W W',_;rw[bn];exact λW W' h b=>h.trans b
  have o:T (aj).drew:=by rw[bn,bw];exact St.drew (S:=λW=>Below (aj).heap.size (aj) W) (Below.refl _ _)
  clear bn bw;refine wp_region_held (S:=T) (by kernel_rfl) ?_;simp only[Lk,Lc,Lo,Nat.reduceAdd,Li,Lj,Lp,Lm,Ll];show wpAnyH _ _ _ _ _ _ _ _ (aj).drew;generalize (aj).drew=w0 at o|-;(refine tkH 0 _ rfl ((ZT rfl 25 _ rfl bg rfl 25 p.cells _ (λW hW=>(bl.out _ (D2.out _ (D3.out _ (D4.out _ (t0.out _ hW)))))) Tryz.underlying25 rfl (by kernel_rfl))) ?_;simp only[Act.put,Qa,Qb,Qc]);(refine tkH 1 (.slice (some ad) ts.length an) rfl (Qd rfl (λW hW=>by(go_simp))) ?_;simp only[Act.put,Qa,Qb,Qc]);(refine tkH 2 (.int .i64 (k:Int)) rfl (Qd rfl (λW hW=>by(go_simp))) ?_;simp only[Act.put,Qa,Qb,Qc]);(refine tkH 3 (.pointer (some (ad.add k))) rfl (Qd rfl (λW hW=>by(go_simp))) ?_;simp only[Act.put,Qa,Qb,Qc]);(refine tkH 4 (.slice t.addr t.l.length t.cap) rfl (Qd rfl (λW hW=>by((have c:=(by obtain⟨a2,e2,h2⟩:=Jt (au.out _ (D1.out _ (D2.out _ (D3.out _ (D4.out _ (t0.out _ hW)))))) Ht.out;injection e2 with e2;rw[e2];exact h2:W.cell? (ad.add k)=some (.slice t.addr t.l.length t.cap));go_simp)))) ?_;simp only[Act.put,Qa,Qb,Qc]);(refine tkH 5 (.int .i64 fuel) rfl (Qd rfl (λW hW=>by(go_simp))) ?_;simp only[Act.put,Qa,Qb,Qc]);(refine tkH 7 _ rfl ((ZT rfl 25 _ rfl ah rfl 25 m.cells _ (λW hW=>(cs.out _ (t0.out _ hW))) Tryz.underlying25 rfl (by kernel_rfl))) ?_;simp only[Act.put,Qa,Qb,Qc]);(refine tkH 8 (.slice (some ad) ts.length an) rfl (Qd rfl (λW hW=>by(go_simp))) ?_;simp only[Act.put,Qa,Qb,Qc]);(refine tkH 9 (.int .i64 (k:Int)) rfl (Qd rfl (λW hW=>by(go_simp))) ?_;simp only[Act.put,Qa,Qb,Qc]);(refine tkH 10 (.pointer (some (ad.add k))) rfl (Qd rfl (λW hW=>by(go_simp))) ?_;simp only[Act.put,Qa,Qb,Qc]);(refine tkH 11 (.slice t.addr t.l.length t.cap) rfl (Qd rfl (λW hW=>by((have c:=(by obtain⟨a2,e2,h2⟩:=Jt (au.out _ (D1.out _ (D2.out _ (D3.out _ (D4.out _ (t0.out _ hW)))))) Ht.out;injection e2 with e2;rw[e2];exact h2:W.cell? (ad.add k)=some (.slice t.addr t.l.length t.cap));go_simp)))) ?_;simp only[Act.put,Qa,Qb,Qc]);(refine tkH 12 (.int .i64 fuel) rfl (Qd rfl (λW hW=>by(go_simp))) ?_;simp only[Act.put,Qa,Qb,Qc]);have br:Hid (p.body.length<=1000):=by show _<=_;have:=av.out.body;omega
  have bs:Hid (m.body.length<=1000):=by show _<=_;have:=cw.out;have:=av.out.body;omega
  have a5:Hid (t.l.length<=1000):=by show _<=_;have:=cx.out t ae.out;omega
  apply X6 (F:=λg1 g2 W=>T W/\Row W g1 52 (Jv ((QG p t.l fuel).out.getD (0,0)).1 ((QG p t.l fuel).out.getD (0,0)).2).toArray/\B<=g1/\Row W g2 52 (Jv ((QG m t.l fuel).out.getD (0,0)).1 ((QG m t.l fuel).out.getD (0,0)).2).toArray/\B<=g2/\g1≠g2)
  case main=>
   intro da;apply X6 (F:=λg1 g2 W=>T W/\Row W g1 52 (Jv ((QG p t.l fuel).out.getD (0,0)).1 ((QG p t.l fuel).out.getD (0,0)).2).toArray/\B<=g1/\Row W g2 52 (Jv 0 0).toArray/\B<=g2/\g1≠g2)
   case main=>
    intro c8;apply X6 (F:=λg1 g2 W=>T W/\Row W g1 52 (Jv 0 0).toArray/\B<=g1/\Row W g2 52 (Jv 0 0).toArray/\B<=g2/\g1≠g2)
    case main=>
     intro ca;apply X6 (F:=λg1 g2 W=>T W/\Row W g1 52 (Jv 0 0).toArray/\B<=g1/\Row W g2 52 (Jv 0 0).toArray/\B<=g2/\g1≠g2)
     case main=>
      intro b9;apply Xe (F:=λg2 W=>T W/\Row W g2 52 (Jv 0 0).toArray/\B<=g2)
      case main=>
       intro j9;apply Xe (F:=λg1 W=>T W/\Row W g1 52 (Jv 0 0).toArray/\B<=g1)
       case main=>
        intro j8;apply X6 (F:=λg1 g2 W=>T W/\Row W g1 52 (Jv 0 0).toArray/\B<=g1/\Row W g2 52 (Jv 0 0).toArray/\B<=g2/\g1≠g2)
        case main=>
         intro j7;apply Xe (F:=λg2 W=>T W/\Row W g2 52 (Jv 0 0).toArray/\B<=g2)
         case main=>
          intro j6;apply Xe (F:=λg1 W=>T W/\Row W g1 52 (Jv 0 0).toArray/\B<=g1)
          case main=>
           intro j5;apply AbK (F:=λW=>T W)
           case main=>
            intro j4;apply Xe (F:=λg2 W=>T W/\Row W g2 52 (Jv 0 0).toArray/\B<=g2)
            case main=>
             intro j3;apply Xe (F:=λg1 W=>T W/\Row W g1 52 (Jv 0 0).toArray/\B<=g1)
             case main=>
              intro j2;apply AbK (F:=λW=>T W)
              case main=>
               intro j1;refine wpAnyH_all (rs:=[6,14,15]) (by kernel_rfl) (by simp) (λi hi=>?_);simp only[Ls,Lw,or_false]at hi;rcases hi with rfl|rfl|rfl
               ·skip;refine Qf rfl rfl (λK2 g=>?_);refine Qo 22 #[.agg p.cells,.slice t.addr t.l.length t.cap,.int .i64 fuel] (w1:=w0) (by go_simp) ((KP p t.addr t.cap t.l fuel w0 br.out a5.out (ai.out _ (D1.out _ (D2.out _ (D3.out _ (D4.out _ (t0.out _ o)))))) ((s.out _ (D1.out _ (D2.out _ (D3.out _ (D4.out _ (t0.out _ o)))))) t ae.out).reads ((s.out _ (D1.out _ (D2.out _ (D3.out _ (D4.out _ (t0.out _ o)))))) t ae.out).all).mono ?_);rintro e w1 ⟨rfl,bb⟩;refine⟨_,rfl,?_⟩;refine g _ _ ?_;clear g K2;simp only[Act.put,Qa,Qb,Qc];replace o:=sB.out _ _ o (bb.mono (sz.out _ o));clear bb;refine⟨o,?_⟩;exact j1 w1 o
               ·skip;refine Qf rfl rfl (λK2 g=>?_);refine QD 52 rfl _ _ (JQ _) rfl ?_;intro g1 w1 hg r1 bx;refine g _ _ ?_;clear g K2;simp only[Act.put,Qa,Qb,Qc];have l1:B<=g1:=Ld (sz.out _ o) hg;replace o:=sB.out _ _ o ((bx.mono hg).mono (sz.out _ o));clear bx hg;refine⟨o,?_⟩;exact j2 g1 w1 ⟨o,r1,l1⟩
               ·skip;refine Qf rfl rfl (λK2 g=>?_);refine QD 52 rfl _ _ (JQ _) rfl ?_;intro g2 w1 hg r2 bx;refine g _ _ ?_;clear g K2;simp only[Act.put,Qa,Qb,Qc];have l2:B<=g2:=Ld (sz.out _ o) hg;replace o:=sB.out _ _ o ((bx.mono hg).mono (sz.out _ o));clear bx hg;refine⟨o,?_⟩;exact j3 g2 w1 ⟨o,r2,l2⟩
              case tail=>
               rintro w0 o;refine wpAnyH_all (rs:=[13,14,15]) (by kernel_rfl) (by simp) (λi hi=>?_);simp only[Ls,Lw,or_false]at hi;rcases hi with rfl|rfl|rfl
               ·skip;refine Qf rfl rfl (λK2 g=>?_);refine Qo 22 #[.agg m.cells,.slice t.addr t.l.length t.cap,.int .i64 fuel] (w1:=w0) (by go_simp) ((KP m t.addr t.cap t.l fuel w0 bs.out a5.out (a1.out _ (t0.out _ o)) ((s.out _ (D1.out _ (D2.out _ (D3.out _ (D4.out _ (t0.out _ o)))))) t ae.out).reads ((s.out _ (D1.out _ (D2.out _ (D3.out _ (D4.out _ (t0.out _ o)))))) t ae.out).all).mono ?_);rintro e w1 ⟨rfl,bb⟩;refine⟨_,rfl,?_⟩;refine g _ _ ?_;clear g K2;simp only[Act.put,Qa,Qb,Qc];replace o:=sB.out _ _ o (bb.mono (sz.out _ o));clear bb;refine⟨o,?_⟩;exact j4 w1 o
               ·skip;refine Qf rfl rfl (λK2 g=>?_);refine QD 52 rfl _ _ (JQ _) rfl ?_;intro g1 w1 hg r1 bx;refine g _ _ ?_;clear g K2;simp only[Act.put,Qa,Qb,Qc];have l1:B<=g1:=Ld (sz.out _ o) hg;replace o:=sB.out _ _ o ((bx.mono hg).mono (sz.out _ o));clear bx hg;refine⟨o,?_⟩;exact j5 g1 w1 ⟨o,r1,l1⟩
               ·skip;refine Qf rfl rfl (λK2 g=>?_);refine QD 52 rfl _ _ (JQ _) rfl ?_;intro g2 w1 hg r2 bx;refine g _ _ ?_;clear g K2;simp only[Act.put,Qa,Qb,Qc];have l2:B<=g2:=Ld (sz.out _ o) hg;replace o:=sB.out _ _ o ((bx.mono hg).mono (sz.out _ o));clear bx hg;refine⟨o,?_⟩;exact j6 g2 w1 ⟨o,r2,l2⟩
             case tail=>
              rintro g1 w0 ⟨o,r1,l1⟩;refine wpAnyH_all (rs:=[6,15]) (by kernel_rfl) (by simp) (λi hi=>?_);simp only[Ls,Lw,or_false]at hi;rcases hi with rfl|rfl
              ·skip;refine Qf rfl rfl (λK2 g=>?_);refine Qo 22 #[.agg p.cells,.slice t.addr t.l.length t.cap,.int .i64 fuel] (w1:=w0) (by go_simp) ((KP p t.addr t.cap t.l fuel w0 br.out a5.out (ai.out _ (D1.out _ (D2.out _ (D3.out _ (D4.out _ (t0.out _ o)))))) ((s.out _ (D1.out _ (D2.out _ (D3.out _ (D4.out _ (t0.out _ o)))))) t ae.out).reads ((s.out _ (D1.out _ (D2.out _ (D3.out _ (D4.out _ (t0.out _ o)))))) t ae.out).all).mono ?_);rintro e w1 ⟨rfl,bb⟩;refine⟨_,rfl,?_⟩;refine g _ _ ?_;clear g K2;simp only[Act.put,Qa,Qb,Qc];replace r1:=r1.below bb r1.lt;replace o:=sB.out _ _ o (bb.mono (sz.out _ o));clear bb;refine⟨o,?_⟩;exact j5 g1 w1 ⟨o,r1,l1⟩
              ·skip;refine Qf rfl rfl (λK2 g=>?_);refine QD 52 rfl _ _ (JQ _) rfl ?_;intro g2 w1 hg r2 bx;refine g _ _ ?_;clear g K2;simp only[Act.put,Qa,Qb,Qc];have l2:B<=g2:=Ld (sz.out _ o) hg;have ne:g1≠g2:=by have:=r1.lt;omega
               replace r1:=r1.below (bx.mono hg) r1.lt;replace o:=sB.out _ _ o ((bx.mono hg).mono (sz.out _ o));clear bx hg;refine⟨o,?_⟩;exact j7 g1 g2 w1 ⟨o,r1,l1,r2,l2,ne⟩
            case tail=>
             rintro g2 w0 ⟨o,r2,l2⟩;refine wpAnyH_all (rs:=[6,14]) (by kernel_rfl) (by simp) (λi hi=>?_);simp only[Ls,Lw,or_false]at hi;rcases hi with rfl|rfl
             ·skip;refine Qf rfl rfl (λK2 g=>?_);refine Qo 22 #[.agg p.cells,.slice t.addr t.l.length t.cap,.int .i64 fuel] (w1:=w0) (by go_simp) ((KP p t.addr t.cap t.l fuel w0 br.out a5.out (ai.out _ (D1.out _ (D2.out _ (D3.out _ (D4.out _ (t0.out _ o)))))) ((s.out _ (D1.out _ (D2.out _ (D3.out _ (D4.out _ (t0.out _ o)))))) t ae.out).reads ((s.out _ (D1.out _ (D2.out _ (D3.out _ (D4.out _ (t0.out _ o)))))) t ae.out).all).mono ?_);rintro e w1 ⟨rfl,bb⟩;refine⟨_,rfl,?_⟩;refine g _ _ ?_;clear g K2;simp only[Act.put,Qa,Qb,Qc];replace r2:=r2.below bb r2.lt;replace o:=sB.out _ _ o (bb.mono (sz.out _ o));clear bb;refine⟨o,?_⟩;exact j6 g2 w1 ⟨o,r2,l2⟩
             ·skip;refine Qf rfl rfl (λK2 g=>?_);refine QD 52 rfl _ _ (JQ _) rfl ?_;intro g1 w1 hg r1 bx;refine g _ _ ?_;clear g K2;simp only[Act.put,Qa,Qb,Qc];have l1:B<=g1:=Ld (sz.out _ o) hg;have ne:g1≠g2:=by have:=r2.lt;omega
              replace r2:=r2.below (bx.mono hg) r2.lt;replace o:=sB.out _ _ o ((bx.mono hg).mono (sz.out _ o));clear bx hg;refine⟨o,?_⟩;exact j7 g1 g2 w1 ⟨o,r1,l1,r2,l2,ne⟩
           case tail=>
            rintro w0 o;refine wpAnyH_all (rs:=[14,15]) (by kernel_rfl) (by simp) (λi hi=>?_);simp only[Ls,Lw,or_false]at hi;rcases hi with rfl|rfl
            ·skip;refine Qf rfl rfl (λK2 g=>?_);refine QD 52 rfl _ _ (JQ _) rfl ?_;intro g1 w1 hg r1 bx;refine g _ _ ?_;clear g K2;simp only[Act.put,Qa,Qb,Qc];have l1:B<=g1:=Ld (sz.out _ o) hg;replace o:=sB.out _ _ o ((bx.mono hg).mono (sz.out _ o));clear bx hg;refine⟨o,?_⟩;exact j8 g1 w1 ⟨o,r1,l1⟩
            ·skip;refine Qf rfl rfl (λK2 g=>?_);refine QD 52 rfl _ _ (JQ _) rfl ?_;intro g2 w1 hg r2 bx;refine g _ _ ?_;clear g K2;simp only[Act.put,Qa,Qb,Qc];have l2:B<=g2:=Ld (sz.out _ o) hg;replace o:=sB.out _ _ o ((bx.mono hg).mono (sz.out _ o));clear bx hg;refine⟨o,?_⟩;exact j9 g2 w1 ⟨o,r2,l2⟩
          case tail=>
           rintro g1 w0 ⟨o,r1,l1⟩;refine wpAnyH_all (rs:=[13,15]) (by kernel_rfl) (by simp) (λi hi=>?_);simp only[Ls,Lw,or_false]at hi;rcases hi with rfl|rfl
           ·skip;refine Qf rfl rfl (λK2 g=>?_);refine Qo 22 #[.agg m.cells,.slice t.addr t.l.length t.cap,.int .i64 fuel] (w1:=w0) (by go_simp) ((KP m t.addr t.cap t.l fuel w0 bs.out a5.out (a1.out _ (t0.out _ o)) ((s.out _ (D1.out _ (D2.out _ (D3.out _ (D4.out _ (t0.out _ o)))))) t ae.out).reads ((s.out _ (D1.out _ (D2.out _ (D3.out _ (D4.out _ (t0.out _ o)))))) t ae.out).all).mono ?_);rintro e w1 ⟨rfl,bb⟩;refine⟨_,rfl,?_⟩;refine g _ _ ?_;clear g K2;simp only[Act.put,Qa,Qb,Qc];replace r1:=r1.below bb r1.lt;replace o:=sB.out _ _ o (bb.mono (sz.out _ o));clear bb;refine⟨o,?_⟩;exact j8 g1 w1 ⟨o,r1,l1⟩
           ·skip;refine Qf rfl rfl (λK2 g=>?_);refine QD 52 rfl _ _ (JQ _) rfl ?_;intro g2 w1 hg r2 bx;refine g _ _ ?_;clear g K2;simp only[Act.put,Qa,Qb,Qc];have l2:B<=g2:=Ld (sz.out _ o) hg;have ne:g1≠g2:=by have:=r1.lt;omega
            replace r1:=r1.below (bx.mono hg) r1.lt;replace o:=sB.out _ _ o ((bx.mono hg).mono (sz.out _ o));clear bx hg;refine⟨o,?_⟩;exact b9 g1 g2 w1 ⟨o,r1,l1,r2,l2,ne⟩
         case tail=>
          rintro g2 w0 ⟨o,r2,l2⟩;refine wpAnyH_all (rs:=[13,14]) (by kernel_rfl) (by simp) (λi hi=>?_);simp only[Ls,Lw,or_false]at hi;rcases hi with rfl|rfl
          ·skip;refine Qf rfl rfl (λK2 g=>?_);refine Qo 22 #[.agg m.cells,.slice t.addr t.l.length t.cap,.int .i64 fuel] (w1:=w0) (by go_simp) ((KP m t.addr t.cap t.l fuel w0 bs.out a5.out (a1.out _ (t0.out _ o)) ((s.out _ (D1.out _ (D2.out _ (D3.out _ (D4.out _ (t0.out _ o)))))) t ae.out).reads ((s.out _ (D1.out _ (D2.out _ (D3.out _ (D4.out _ (t0.out _ o)))))) t ae.out).all).mono ?_);rintro e w1 ⟨rfl,bb⟩;refine⟨_,rfl,?_⟩;refine g _ _ ?_;clear g K2;simp only[Act.put,Qa,Qb,Qc];replace r2:=r2.below bb r2.lt;replace o:=sB.out _ _ o (bb.mono (sz.out _ o));clear bb;refine⟨o,?_⟩;exact j9 g2 w1 ⟨o,r2,l2⟩
          ·skip;refine Qf rfl rfl (λK2 g=>?_);refine QD 52 rfl _ _ (JQ _) rfl ?_;intro g1 w1 hg r1 bx;refine g _ _ ?_;clear g K2;simp only[Act.put,Qa,Qb,Qc];have l1:B<=g1:=Ld (sz.out _ o) hg;have ne:g1≠g2:=by have:=r2.lt;omega
           replace r2:=r2.below (bx.mono hg) r2.lt;replace o:=sB.out _ _ o ((bx.mono hg).mono (sz.out _ o));clear bx hg;refine⟨o,?_⟩;exact b9 g1 g2 w1 ⟨o,r1,l1,r2,l2,ne⟩
        case tail=>
         rintro g1 g2 w0 ⟨o,r1,l1,r2,l2,ne⟩;(refine wpAnyH_all (rs:=[6]) (by kernel_rfl) (by simp) (λi hi=>?_);obtain rfl:i=6:=by simpa using hi);refine Qf rfl rfl (λK2 g=>?_);refine Qo 22 #[.agg p.cells,.slice t.addr t.l.length t.cap,.int .i64 fuel] (w1:=w0) (by go_simp) ((KP p t.addr t.cap t.l fuel w0 br.out a5.out (ai.out _ (D1.out _ (D2.out _ (D3.out _ (D4.out _ (t0.out _ o)))))) ((s.out _ (D1.out _ (D2.out _ (D3.out _ (D4.out _ (t0.out _ o)))))) t ae.out).reads ((s.out _ (D1.out _ (D2.out _ (D3.out _ (D4.out _ (t0.out _ o)))))) t ae.out).all).mono ?_);rintro e w1 ⟨rfl,bb⟩;refine⟨_,rfl,?_⟩;refine g _ _ ?_;clear g K2;simp only[Act.put,Qa,Qb,Qc];replace r1:=r1.below bb r1.lt;replace r2:=r2.below bb r2.lt;replace o:=sB.out _ _ o (bb.mono (sz.out _ o));clear bb;refine⟨o,?_⟩;exact b9 g1 g2 w1 ⟨o,r1,l1,r2,l2,ne⟩
       case tail=>
        rintro g1 w0 ⟨o,r1,l1⟩;(refine wpAnyH_all (rs:=[15]) (by kernel_rfl) (by simp) (λi hi=>?_);obtain rfl:i=15:=by simpa using hi);refine Qf rfl rfl (λK2 g=>?_);refine QD 52 rfl _ _ (JQ _) rfl ?_;intro g2 w1 hg r2 bx;refine g _ _ ?_;clear g K2;simp only[Act.put,Qa,Qb,Qc];have l2:B<=g2:=Ld (sz.out _ o) hg;have ne:g1≠g2:=by have:=r1.lt;omega
        replace r1:=r1.below (bx.mono hg) r1.lt;replace o:=sB.out _ _ o ((bx.mono hg).mono (sz.out _ o));clear bx hg;refine⟨o,?_⟩;exact ca g1 g2 w1 ⟨o,r1,l1,r2,l2,ne⟩
      case tail=>
       rintro g2 w0 ⟨o,r2,l2⟩;(refine wpAnyH_all (rs:=[14]) (by kernel_rfl) (by simp) (λi hi=>?_);obtain rfl:i=14:=by simpa using hi);refine Qf rfl rfl (λK2 g=>?_);refine QD 52 rfl _ _ (JQ _) rfl ?_;intro g1 w1 hg r1 bx;refine g _ _ ?_;clear g K2;simp only[Act.put,Qa,Qb,Qc];have l1:B<=g1:=Ld (sz.out _ o) hg;have ne:g1≠g2:=by have:=r2.lt;omega
       replace r2:=r2.below (bx.mono hg) r2.lt;replace o:=sB.out _ _ o ((bx.mono hg).mono (sz.out _ o));clear bx hg;refine⟨o,?_⟩;exact ca g1 g2 w1 ⟨o,r1,l1,r2,l2,ne⟩
     case tail=>
      rintro g1 g2 w0 ⟨o,r1,l1,r2,l2,ne⟩;(refine wpAnyH_all (rs:=[13]) (by kernel_rfl) (by simp) (λi hi=>?_);obtain rfl:i=13:=by simpa using hi);refine Qf rfl rfl (λK2 g=>?_);refine Qo 22 #[.agg m.cells,.slice t.addr t.l.length t.cap,.int .i64 fuel] (w1:=w0) (by go_simp) ((KP m t.addr t.cap t.l fuel w0 bs.out a5.out (a1.out _ (t0.out _ o)) ((s.out _ (D1.out _ (D2.out _ (D3.out _ (D4.out _ (t0.out _ o)))))) t ae.out).reads ((s.out _ (D1.out _ (D2.out _ (D3.out _ (D4.out _ (t0.out _ o)))))) t ae.out).all).mono ?_);rintro e w1 ⟨rfl,bb⟩;refine⟨_,rfl,?_⟩;refine g _ _ ?_;clear g K2;simp only[Act.put,Qa,Qb,Qc];replace r1:=r1.below bb r1.lt;replace r2:=r2.below bb r2.lt;replace o:=sB.out _ _ o (bb.mono (sz.out _ o));clear bb;refine⟨o,?_⟩;exact ca g1 g2 w1 ⟨o,r1,l1,r2,l2,ne⟩
    case tail=>
     rintro g1 g2 w0 ⟨o,r1,l1,r2,l2,ne⟩;(refine wpAnyH_all (rs:=[16]) (by kernel_rfl) (by simp) (λi hi=>?_);obtain rfl:i=16:=by simpa using hi);refine Qf rfl rfl (λK2 g=>?_);refine Q6 52 _ _ rfl g1 ((Jv ((QG p t.l fuel).out.getD (0,0)).1 ((QG p t.l fuel).out.getD (0,0)).2).toArray) rfl rfl 52 _ r1 (by kernel_rfl) rfl (AdX _ _) ?_;intro w1 rz oz;refine g _ _ ?_;clear g K2;simp only[Act.put,Qa,Qb,Qc];replace r2:=r2.only oz ne.symm;replace r1:=rz;replace o:=sB.out _ _ o (oz.below l1);clear rz oz;refine⟨o,?_⟩;exact c8 g1 g2 w1 ⟨o,r1,l1,r2,l2,ne⟩
   case tail=>
    rintro g1 g2 w0 ⟨o,r1,l1,r2,l2,ne⟩;(refine wpAnyH_all (rs:=[17]) (by kernel_rfl) (by simp) (λi hi=>?_);obtain rfl:i=17:=by simpa using hi);refine Qf rfl rfl (λK2 g=>?_);refine Q6 52 _ _ rfl g2 ((Jv ((QG m t.l fuel).out.getD (0,0)).1 ((QG m t.l fuel).out.getD (0,0)).2).toArray) rfl rfl 52 _ r2 (by kernel_rfl) rfl (AdX _ _) ?_;intro w1 rz oz;refine g _ _ ?_;clear g K2;simp only[Act.put,Qa,Qb,Qc];replace r1:=r1.only oz ne;replace r2:=rz;replace o:=sB.out _ _ o (oz.below l2);clear rz oz;refine⟨o,?_⟩;exact da g1 g2 w1 ⟨o,r1,l1,r2,l2,ne⟩
  case tail=>
   rintro g1 g2 w0 ⟨o,r1,l1,r2,l2,ne⟩;refine wpAnyH_done (by kernel_rfl) ?_ _;have q:=t0.out _ o;clear o l1 l2 t0 sz sB;obtain⟨S5,dr,ac,D5,b3,b4⟩:=AjN (w:=w0) S4 (λW=>Row W g1 52 (Jv ((QG p t.l fuel).out.getD (0,0)).1 ((QG p t.l fuel).out.getD (0,0)).2).toArray) (λW=>Row W g2 52 (Jv ((QG m t.l fuel).out.getD (0,0)).1 ((QG m t.l fuel).out.getD (0,0)).2).toArray) q (r1) (r2);clear q r1 r2 ne cf;have bh:Hid ((rnZ p fuel t.l).kind=((QG p t.l fuel).out.getD (0,0)).1/\(rnZ p fuel t.l).value=((QG p t.l fuel).out.getD (0,0)).2):=⟨rfl,rfl⟩;have bi:Hid ((rnZ m fuel t.l).kind=((QG m t.l fuel).out.getD (0,0)).1/\(rnZ m fuel t.l).value=((QG m t.l fuel).out.getD (0,0)).2):=⟨rfl,rfl⟩;generalize ((QG p t.l fuel).out.getD (0,0)).1=ka at*;generalize ((QG p t.l fuel).out.getD (0,0)).2=va at*;generalize ((QG m t.l fuel).out.getD (0,0)).1=kb at*;generalize ((QG m t.l fuel).out.getD (0,0)).2=vb at*;have bv:Hid (rnZ m fuel t.l=rnZ (JS p y.m.d) fuel t.l):=by show _=_;rw[Hm.out.rn]
   have bt:Hid ((List.map IntsV.l ts)[k]? =some t.l):=by show _=_;rw[L4,Ht.out];rfl
   have cu:=(b3.out _ ac.out).cellv (i:=0) (v:=.int .i64 ka) rfl;have cv:=(b4.out _ ac.out).cellv (i:=0) (v:=.int .i64 kb) rfl;by_cases ha:ka=4
   ·have cy:(ka != 4)=false:=by simpa using ha
    have hx:¬Q2 (rnZ p fuel t.l) (rnZ m fuel t.l)=1:=λh=>(tells_1.1 h).1 (bh.out.1.trans ha);clear ha;have ay:y.m.verdict=1->¬y.m.test=(k:Int):=λhv ht=>hx (by rw[bv.out];exact(V8 bt.out).2 (by rw[<-bc.out];exact hv) (by rw[<-bc.out];exact ht));have a6:=Lh ay;clear hx ay;obtain⟨vv,a0⟩:∃v,v=y.m.verdict:=⟨_,rfl⟩;obtain⟨tt,ar⟩:∃v,v=y.m.test:=⟨_,rfl⟩;have c5:=((a9.out _ (D4.out _ (D5.out _ ac.out))).cellv (i:=5) (v:=.slice (some am) c.mts.length c.mcap) (by show some (Value.slice c.mA c.mts.length c.mcap)=_;rw[ap.out]));have y3:=(show w0.cell? ⟨(am.add (i*8)).block,(am.add (i*8)).off+3,none⟩=some (.int .i64 y.m.verdict)from by have h:=(show ∀j u,y.cells[j]? =some u->w0.cell? ((am.add (i*8)).add j)=some u from by obtain⟨a2,e2,h2⟩:=KW (c:=MtV.cells) (sz:=8) (λ_=>rfl) (by decide) ((af.out _ (D3.out _ (D4.out _ (D5.out _ ac.out))))).mrd aw.out;rw[ap.out]at e2;injection e2 with e2;rw[e2];exact h2) 3 (.int .i64 y.m.verdict) rfl;simpa[Addr.add]using h);have y4:=(show w0.cell? ⟨(am.add (i*8)).block,(am.add (i*8)).off+4,none⟩=some (.int .i64 y.m.test)from by have h:=(show ∀j u,y.cells[j]? =some u->w0.cell? ((am.add (i*8)).add j)=some u from by obtain⟨a2,e2,h2⟩:=KW (c:=MtV.cells) (sz:=8) (λ_=>rfl) (by decide) ((af.out _ (D3.out _ (D4.out _ (D5.out _ ac.out))))).mrd aw.out;rw[ap.out]at e2;injection e2 with e2;rw[e2];exact h2) 4 (.int .i64 y.m.test) rfl;simpa[Addr.add]using h);rw[<-a0]at y3;rw[<-ar]at y4;rw[<-a0, <-ar]at a6;clear a0 ar;by_cases al:vv=1
    ·have az:¬tt=(k:Int):=a6.out al;have b0:(tt==(k:Int))=false:=by simpa using az
     subst al;clear az;go_wp2_with fail
     go_wp2_with fail
     go_ret
     exact⟨rfl,(ab.out _ (D1.out _ (D2.out _ (D3.out _ (D4.out _ (D5.out _ ac.out))))))⟩
    ·have az:(vv==1)=false:=by simpa using al
     clear al;go_wp2_with fail
     go_ret
     exact⟨rfl,(ab.out _ (D1.out _ (D2.out _ (D3.out _ (D4.out _ (D5.out _ ac.out))))))⟩
   have cy:(ka != 4)=true:=by simpa using ha
   by_cases hb:kb=4
   ·have c1:(kb != 4)=false:=by simpa using hb
    have hx:¬Q2 (rnZ p fuel t.l) (rnZ m fuel t.l)=1:=λh=>(tells_1.1 h).2.1 (bi.out.1.trans hb);clear ha hb;have ay:y.m.verdict=1->¬y.m.test=(k:Int):=λhv ht=>hx (by rw[bv.out];exact(V8 bt.out).2 (by rw[<-bc.out];exact hv) (by rw[<-bc.out];exact ht));have a6:=Lh ay;clear hx ay;obtain⟨vv,a0⟩:∃v,v=y.m.verdict:=⟨_,rfl⟩;obtain⟨tt,ar⟩:∃v,v=y.m.test:=⟨_,rfl⟩;have c5:=((a9.out _ (D4.out _ (D5.out _ ac.out))).cellv (i:=5) (v:=.slice (some am) c.mts.length c.mcap) (by show some (Value.slice c.mA c.mts.length c.mcap)=_;rw[ap.out]));have y3:=(show w0.cell? ⟨(am.add (i*8)).block,(am.add (i*8)).off+3,none⟩=some (.int .i64 y.m.verdict)from by have h:=(show ∀j u,y.cells[j]? =some u->w0.cell? ((am.add (i*8)).add j)=some u from by obtain⟨a2,e2,h2⟩:=KW (c:=MtV.cells) (sz:=8) (λ_=>rfl) (by decide) ((af.out _ (D3.out _ (D4.out _ (D5.out _ ac.out))))).mrd aw.out;rw[ap.out]at e2;injection e2 with e2;rw[e2];exact h2) 3 (.int .i64 y.m.verdict) rfl;simpa[Addr.add]using h);have y4:=(show w0.cell? ⟨(am.add (i*8)).block,(am.add (i*8)).off+4,none⟩=some (.int .i64 y.m.test)from by have h:=(show ∀j u,y.cells[j]? =some u->w0.cell? ((am.add (i*8)).add j)=some u from by obtain⟨a2,e2,h2⟩:=KW (c:=MtV.cells) (sz:=8) (λ_=>rfl) (by decide) ((af.out _ (D3.out _ (D4.out _ (D5.out _ ac.out))))).mrd aw.out;rw[ap.out]at e2;injection e2 with e2;rw[e2];exact h2) 4 (.int .i64 y.m.test) rfl;simpa[Addr.add]using h);rw[<-a0]at y3;rw[<-ar]at y4;rw[<-a0, <-ar]at a6;clear a0 ar;by_cases al:vv=1
    ·have az:¬tt=(k:Int):=a6.out al;have b0:(tt==(k:Int))=false:=by simpa using az
     subst al;clear az;go_wp2_with fail
     go_wp2_with fail
     go_ret
     exact⟨rfl,(ab.out _ (D1.out _ (D2.out _ (D3.out _ (D4.out _ (D5.out _ ac.out))))))⟩
    ·have az:(vv==1)=false:=by simpa using al
     clear al;go_wp2_with fail
     go_ret
     exact⟨rfl,(ab.out _ (D1.out _ (D2.out _ (D3.out _ (D4.out _ (D5.out _ ac.out))))))⟩
   have c1:(kb != 4)=true:=by simpa using hb
   have hq:=VG ka va kb vb;by_cases hn:kb=ka/\vb=va
   ·have he:(!(ka==kb && va==vb))=false:=by simp[hn.1,hn.2]
    rw[he]at hq;have Hq:=Lh hq;have hx:¬Q2 (rnZ p fuel t.l) (rnZ m fuel t.l)=1:=λh=>(tells_1.1 h).2.2 ⟨bi.out.1.trans (hn.1.trans bh.out.1.symm),bi.out.2.trans (hn.2.trans bh.out.2.symm)⟩;clear hq hn he ha hb;go_wp2_with (refine AfM 52 _ rfl ?_)
    refine Stop.to ?_;refine U6 S5 3 ac.out ?_;simp only[L0,LE,Lz,LA];(refine Zp rfl 52 _ rfl (g1) rfl 52 _ _ (λW hW=>(b3.out _ hW)) Tryz.underlying52 rfl (by kernel_rfl) ?_;simp only[Act.put,Qa,Qb,Qc]);(refine Zp rfl 52 _ rfl (g2) rfl 52 _ _ (λW hW=>(b4.out _ hW)) Tryz.underlying52 rfl (by kernel_rfl) ?_;simp only[Act.put,Qa,Qb,Qc]);refine Qg rfl (.bool false) (λW _=>Ki rfl _ (run_eqGuard_agg _ _ _ _ _ _ _ (by kernel_rfl)) (Hq.out W)) ?_;simp only[Act.put,Qa,Qb,Qc];refine Q4 λW9 bo=>?_
    clear ac;have ac:Hid (S5 W9):=bo;clear bo;have ay:y.m.verdict=1->¬y.m.test=(k:Int):=λhv ht=>hx (by rw[bv.out];exact(V8 bt.out).2 (by rw[<-bc.out];exact hv) (by rw[<-bc.out];exact ht));have a6:=Lh ay;clear hx ay;obtain⟨vv,a0⟩:∃v,v=y.m.verdict:=⟨_,rfl⟩;obtain⟨tt,ar⟩:∃v,v=y.m.test:=⟨_,rfl⟩;have c5:=((a9.out _ (D4.out _ (D5.out _ ac.out))).cellv (i:=5) (v:=.slice (some am) c.mts.length c.mcap) (by show some (Value.slice c.mA c.mts.length c.mcap)=_;rw[ap.out]));have y3:=(show W9.cell? ⟨(am.add (i*8)).block,(am.add (i*8)).off+3,none⟩=some (.int .i64 y.m.verdict)from by have h:=(show ∀j u,y.cells[j]? =some u->W9.cell? ((am.add (i*8)).add j)=some u from by obtain⟨a2,e2,h2⟩:=KW (c:=MtV.cells) (sz:=8) (λ_=>rfl) (by decide) ((af.out _ (D3.out _ (D4.out _ (D5.out _ ac.out))))).mrd aw.out;rw[ap.out]at e2;injection e2 with e2;rw[e2];exact h2) 3 (.int .i64 y.m.verdict) rfl;simpa[Addr.add]using h);have y4:=(show W9.cell? ⟨(am.add (i*8)).block,(am.add (i*8)).off+4,none⟩=some (.int .i64 y.m.test)from by have h:=(show ∀j u,y.cells[j]? =some u->W9.cell? ((am.add (i*8)).add j)=some u from by obtain⟨a2,e2,h2⟩:=KW (c:=MtV.cells) (sz:=8) (λ_=>rfl) (by decide) ((af.out _ (D3.out _ (D4.out _ (D5.out _ ac.out))))).mrd aw.out;rw[ap.out]at e2;injection e2 with e2;rw[e2];exact h2) 4 (.int .i64 y.m.test) rfl;simpa[Addr.add]using h);rw[<-a0]at y3;rw[<-ar]at y4;rw[<-a0, <-ar]at a6;clear a0 ar;by_cases al:vv=1
    ·have az:¬tt=(k:Int):=a6.out al;have b0:(tt==(k:Int))=false:=by simpa using az
     subst al;clear az;go_wp2_with fail
     go_wp2_with fail
     go_ret
     exact⟨rfl,(ab.out _ (D1.out _ (D2.out _ (D3.out _ (D4.out _ (D5.out _ ac.out))))))⟩
    ·have az:(vv==1)=false:=by simpa using al
     clear al;go_wp2_with fail
     go_ret
     exact⟨rfl,(ab.out _ (D1.out _ (D2.out _ (D3.out _ (D4.out _ (D5.out _ ac.out))))))⟩
   have he:(!(ka==kb && va==vb))=true:=(Akd ka va kb vb).2 hn;rw[he]at hq;have Hq:=Lh hq;have hx:Q2 (rnZ p fuel t.l) (rnZ m fuel t.l)=1:=tells_1.2 ⟨by rw[bh.out.1];exact ha,by rw[bi.out.1];exact hb,by rw[bh.out.1,bi.out.1,bh.out.2,bi.out.2];exact hn⟩;clear hq hn he ha hb;go_wp2_with (refine AfM 52 _ rfl ?_)
   refine Stop.to ?_;refine U6 S5 3 ac.out ?_;simp only[L0,LE,Lz,LA];(refine Zp rfl 52 _ rfl (g1) rfl 52 _ _ (λW hW=>(b3.out _ hW)) Tryz.underlying52 rfl (by kernel_rfl) ?_;simp only[Act.put,Qa,Qb,Qc]);(refine Zp rfl 52 _ rfl (g2) rfl 52 _ _ (λW hW=>(b4.out _ hW)) Tryz.underlying52 rfl (by kernel_rfl) ?_;simp only[Act.put,Qa,Qb,Qc]);refine Qg rfl (.bool true) (λW _=>Ki rfl _ (run_eqGuard_agg _ _ _ _ _ _ _ (by kernel_rfl)) (Hq.out W)) ?_;simp only[Act.put,Qa,Qb,Qc];refine Q4 λW9 bo=>?_
   clear ac;have ac:Hid (S5 W9):=bo;clear bo;have b1:y.m.verdict=1/\y.m.test<=(k:Int):=by rw[bc.out];exact(V8 bt.out).1 (by rw[<-bv.out];exact hx)
   obtain⟨b1,c7⟩:=b1;clear hx;have c5:=((a9.out _ (D4.out _ (D5.out _ ac.out))).cellv (i:=5) (v:=.slice (some am) c.mts.length c.mcap) (by show some (Value.slice c.mA c.mts.length c.mcap)=_;rw[ap.out]));have y3:=(show W9.cell? ⟨(am.add (i*8)).block,(am.add (i*8)).off+3,none⟩=some (.int .i64 y.m.verdict)from by have h:=(show ∀j u,y.cells[j]? =some u->W9.cell? ((am.add (i*8)).add j)=some u from by obtain⟨a2,e2,h2⟩:=KW (c:=MtV.cells) (sz:=8) (λ_=>rfl) (by decide) ((af.out _ (D3.out _ (D4.out _ (D5.out _ ac.out))))).mrd aw.out;rw[ap.out]at e2;injection e2 with e2;rw[e2];exact h2) 3 (.int .i64 y.m.verdict) rfl;simpa[Addr.add]using h);have y4:=(show W9.cell? ⟨(am.add (i*8)).block,(am.add (i*8)).off+4,none⟩=some (.int .i64 y.m.test)from by have h:=(show ∀j u,y.cells[j]? =some u->W9.cell? ((am.add (i*8)).add j)=some u from by obtain⟨a2,e2,h2⟩:=KW (c:=MtV.cells) (sz:=8) (λ_=>rfl) (by decide) ((af.out _ (D3.out _ (D4.out _ (D5.out _ ac.out))))).mrd aw.out;rw[ap.out]at e2;injection e2 with e2;rw[e2];exact h2) 4 (.int .i64 y.m.test) rfl;simpa[Addr.add]using h);rw[b1]at y3;clear b1;obtain⟨tt,ar⟩:∃v,v=y.m.test:=⟨_,rfl⟩;rw[<-ar]at y4 c7;clear ar;by_cases al:tt=(k:Int)
   ·have b0:(tt==(k:Int))=true:=by simpa using al
    go_wp2_with fail
    go_ret
    exact⟨rfl,(ab.out _ (D1.out _ (D2.out _ (D3.out _ (D4.out _ (D5.out _ ac.out))))))⟩
   have b0:(tt==(k:Int))=false:=by simpa using al
   clear al;go_wp2_with fail
   go_ret
   exact⟨rfl,(ab.out _ (D1.out _ (D2.out _ (D3.out _ (D4.out _ (D5.out _ ac.out))))))⟩
end Go.Proofs.YtkoikjnlpifbjaaGreat
