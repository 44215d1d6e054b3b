/- Lemmas for RunnerKillsP. -/
import Derived.Test.YtkoikjnlpifbjaaGreatZk1
import Derived.Test.YtkoikjnlpifbjaaGreatZk36
import Derived.Test.YtkoikjnlpifbjaaGreatZk19
set_option linter.unusedVariables false
set_option linter.unusedSimpArgs false
set_option maxRecDepth 100000
set_option maxHeartbeats 16000000
namespace Go.Proofs.YtkoikjnlpifbjaaGreat
open Go.RowKit Go.Deep
structure CampR (R:RnV)(w w':World)(e:Ending):Prop where
 ex:∃c:CpV,e=.returned (.agg c.cells)/\CpOk w' c/\CpT w' c/\c.data=⟨R.q.params,R.q.V,R.q.body,R.ts.map IntsV.l,R.fuel,R.ms.map MtV.m,QF (R.ms.map MtV.m)⟩/\Below w.heap.size w w'
theorem AcR (w:World):Calls Tryz.prog 11 #[.pointer none] w λe w'=>e=.returned (.agg cp0.cells)/\Below w.heap.size w w':=by
 go_enter Tryz.func11,Tryz.ntmps11
 go_wp2_with (refine QH _ rfl ?_)
 refine Stop.to ?_;refine Qj rfl 38 rfl _ _ (K6 _) rfl ?_;intro G k c h d;go_wp2_with (refine Qs _ _ _ rfl ?_)
 refine Stop.to ?_;refine Qk rfl 38 _ _ rfl G cp0.cells rfl rfl 38 _ h (by kernel_rfl) rfl (by simp[CpV.cells,cp0,Value.oneCell']) ?_;intro l j g;have i:=(d.mono c).trans (g.below c);clear c h d g;go_wp2_with fail
 refine bodyPost_ret (results_cell_row Tryz.results11 _ _ G 38 _ (0,0) _ rfl j Tryz.underlying38 rfl (by kernel_rfl)) rfl ?_;exact⟨rfl,i⟩
theorem Aar{lo:Nat}{v:Value}{l:List MtV}{w:World}(h:w.ownsRow lo 54 8 v l.length (XJ l))(hl:l.length<=1000000):
 Calls Tryz.prog 32 #[v] w λe w'=>e=.returned (.agg (QF (l.map MtV.m)).cells)/\Below w.heap.size w w':=by
 obtain⟨c,g,d,rfl⟩:=ZC h;obtain rfl:=E6 h;exact Ahi c d l w (XC h) hl
structure CmT (lo g:Nat)(q:PgV)(f:Int)(sc:Sc)(ts:List (List Int))(W:World):Prop where
 ex:∃tv ys,Row W g 38 #[.int .i64 q.params,.slice q.va q.V.length q.vcap,.slice q.ba q.body.length q.bcap,tv,.int .i64 f,.slice none 0 0,.int .i64 sc.alive,.int .i64 sc.killed,.int .i64 sc.timeout]/\W.ownsRow lo 22 1 tv ys.length (Jo ys)/\ys.map IntsV.l=ts/\(∀y∈ys,y.ok W)/\(∀y∈ys,RowB W 3 y.addr)
structure CmK (w:World)(B0:Nat)(q:PgV)(W:World):Prop where
 okq:q.ok W
 qva:RowB W 3 q.va
 qba:RowB W 65 q.ba
 row:Row W B0 38 cp0.cells
 low:Below w.heap.size w W
theorem CmK.keep{w W W':World}{B0:Nat}{q:PgV}(h:CmK w B0 q W)(k:∀(i:Nat) (t:TypeId) cs,Row W i t cs->t≠38->t≠22->Row W' i t cs)(r:Row W' B0 38 cp0.cells)(b:Below w.heap.size w W'):CmK w B0 q W':=
 ⟨XY h.okq h.qva h.qba (λi cs r=>k i _ cs r (by decide) (by decide)) (λi cs r=>k i _ cs r (by decide) (by decide)),QP h.qva (λi cs r=>k i _ cs r (by decide) (by decide)),QP h.qba (λi cs r=>k i _ cs r (by decide) (by decide)),r,b⟩
theorem Ak1 (W:World)(x:MtV)(h:MtT W x):∃A' c' W',(Builtin.append_ #[22,22] 22 #[.slice none 0 0,.slice x.A x.m.d.path.length x.cap]).run Tryz.prog W=.ok (.slice A' x.m.d.path.length c') W'/\Below W.heap.size W W'/\MtT W' ⟨A',c',x.m⟩:=by
 obtain⟨p,l,g,c,i, -⟩:=ZA (P:=Tryz.prog) 22 3 (.int .i64 0) 1 8 Tryz.underlying22 Jc rfl (by decide) (by decide) (World.ownsRow_nil W W.heap.size 3 1) (Nat.le_refl _) h.1.rd (m:=x.m.d.path.length) (cap:=x.cap) (by rw[JZ,Nat.mul_one]) (Jn x.m.d.path) (λe=>by rw[h.1.nil e];rfl) (by have:=h.1.len;omega);rw[LG,Lm]at c;obtain⟨A',c',rfl,j,n,o,k, -⟩:=Y1 c;exact⟨A',c',l,g,Uf i,⟨j,h.1.len,λe=>Lt (by have:=k e;show x.m.d.path.length=0;omega),h.1.dig⟩,E5 c rfl⟩
structure CmY (w:World)(B0:Nat)(q:PgV)(tA:Option Addr)(ys:List IntsV)(W:World):Prop where
 k:CmK w B0 q W
 trd:Rd W tA (Jo ys)
 tb:RowB W 22 tA
 yok:∀y∈ys,y.ok W
 yb:∀y∈ys,RowB W 3 y.addr
theorem CmY.keep{w W W':World}{B0:Nat}{q:PgV}{tA:Option Addr}{ys:List IntsV}(h:CmY w B0 q tA ys W)(k:∀(i:Nat) (t:TypeId) cs,Row W i t cs->t≠38->t≠54->Row W' i t cs)(r:Row W' B0 38 cp0.cells)(b:Below w.heap.size w W'):CmY w B0 q tA ys W':=by
 have d:∀(i:Nat) cs,Row W i 3 cs->Row W' i 3 cs:=λi cs r=>k i _ cs r (by decide) (by decide);have g:∀(i:Nat) cs,Row W i 65 cs->Row W' i 65 cs:=λi cs r=>k i _ cs r (by decide) (by decide);have e:∀(i:Nat) cs,Row W i 22 cs->Row W' i 22 cs:=λi cs r=>k i _ cs r (by decide) (by decide);exact⟨⟨XY h.k.okq h.k.qva h.k.qba d g,QP h.k.qva d,QP h.k.qba g,r,b⟩,Q3 h.trd h.tb e,QP h.tb e,λy c=>⟨(h.yok y c).len,(h.yok y c).cap,(h.yok y c).nil,Q3 (h.yok y c).reads (h.yb y c) d,(h.yok y c).all⟩,λy c=>QP (h.yb y c) d⟩
def cmC (q:PgV)(f:Int)(sc:Sc)(tv mv:Value):Array Value:=#[.int .i64 q.params,.slice q.va q.V.length q.vcap,.slice q.ba q.body.length q.bcap,tv,.int .i64 f,mv,.int .i64 sc.alive,.int .i64 sc.killed,.int .i64 sc.timeout]
structure CmM (lo g:Nat)(q:PgV)(f:Int)(sc:Sc)(tv:Value)(ms:List Mt)(W:World):Prop where
 ex:∃mv zs,Row W g 38 (cmC q f sc tv mv)/\W.ownsRow lo 54 8 mv zs.length (XJ zs)/\zs.map MtV.m=ms/\(∀z∈zs,MtT W z)
def cpS (q:PgV)(f:Int)(sc:Sc):CpV:=⟨q,none,0,[],f,none,0,[],sc⟩
theorem AbL{P:Program}{md:Region.Mode}{o:Array Oper}{Q:Exit->Act->World->Prop}{S:World->Prop}{n:Nat}{L:Array Bool}{f:PgV->Act}{F:PgV->World->Prop}{G:Prop}
 (main:(∀(q:PgV) W,F q W->wpAnyH P md o Q S n L (f q) W)->G) (tail:∀(q:PgV) W,F q W->wpAnyH P md o Q S n L (f q) W):G:=main tail
theorem Ahv{P:Program}{md:Region.Mode}{o:Array Oper}{Q:Exit->Act->World->Prop}{S:World->Prop}{n:Nat}{L:Array Bool}{f:Nat->Act}{F:Nat->World->Prop}{G:Prop}
 (main:(∀(g3:Nat) W,F g3 W->wpAnyH P md o Q S n L (f g3) W)->G) (tail:∀(g3:Nat) W,F g3 W->wpAnyH P md o Q S n L (f g3) W):G:=main tail
theorem AbM{P:Program}{md:Region.Mode}{o:Array Oper}{Q:Exit->Act->World->Prop}{S:World->Prop}{n:Nat}{L:Array Bool}{f:PgV->Nat->Act}{F:PgV->Nat->World->Prop}{G:Prop}
 (main:(∀(q:PgV) (g3:Nat) W,F q g3 W->wpAnyH P md o Q S n L (f q g3) W)->G) (tail:∀(q:PgV) (g3:Nat) W,F q g3 W->wpAnyH P md o Q S n L (f q g3) W):G:=main tail
theorem AhJ{lo:Nat}(R:RnV)(w:World)(h:RnIn lo R w)(hbl:R.q.body.length<=999)(hvl:R.q.V.length<=1000)(hl:R.ts.length<=1000)(htl:∀x∈R.ts,x.l.length<=1000)(hm:R.ms.length<=100000):Calls Tryz.prog 11 #[.pointer (some ⟨R.g,0,none⟩)] w λe w'=>CampR R w w' e:=by
 have ci:=Lh hbl;have ck:=Lh hvl;have Hl:=Lh hl;have cu:=Lh htl;have Hm:=Lh hm;have Hh:=Lh h;clear hbl hvl hl htl hm;go_enter Tryz.func11,Tryz.ntmps11
 obtain⟨S0,o⟩:∃S:World->Prop,S=(λW=>Below w.heap.size w W/\RnIn lo R W):=⟨_,rfl⟩;have d3:St S0:=by rw[o];infer_instance
 have ap:Hid (∀W,S0 W->Below w.heap.size w W):=by show ∀W,_;rw[o];exact λW h=>h.1
 have ae:Hid (∀W,S0 W->RnIn lo R W):=by show ∀W,_;rw[o];exact λW h=>h.2
 have cg:Hid (S0 w):=by show S0 w;rw[o];exact⟨Below.refl _ _,h⟩
 clear o;clear h;go_wp2_with (refine QH _ rfl ?_)
 refine Stop.to ?_;refine Qj rfl 38 rfl _ _ (K6 _) rfl ?_;intro B0 wB hM rM bM;have cf:Hid (w.heap.size<=B0):=Ld ((ap.out _ cg.out)).size hM;have ag:=d3.go cg.out (bM.mono hM);obtain⟨S1,o⟩:∃S:World->Prop,S=(λW=>S0 W/\Row W B0 38 cp0.cells):=⟨_,rfl⟩;have d4:St S1:=by rw[o];infer_instance
 have D1:Hid (∀W,S1 W->S0 W):=by show ∀W,_;rw[o];exact λW h=>h.1
 have bm:Hid (∀W,S1 W->Row W B0 38 cp0.cells):=by show ∀W,_;rw[o];exact λW h=>h.2
 have bf:Hid (S1 wB):=by show S1 wB;rw[o];exact⟨ag,rM⟩
 clear o;clear ag cg hM rM bM;go_wp2_with fail
 obtain⟨B,a5⟩:∃B,B=(wB).heap.size:=⟨_,rfl⟩;obtain⟨T,a6⟩:∃T:World->Prop,T=(λW=>Below B (wB) W):=⟨_,rfl⟩;have t0:Hid (∀W,T W->S1 W):=by show ∀W,_;rw[a6,a5];exact λW h=>d4.go bf.out h
 have sz:Hid (∀W,T W->B<=W.heap.size):=by show ∀W,_;rw[a6,a5];exact λW h=>h.size
 have sB:Hid (∀W W',T W->Below B W W'->T W'):=by show ∀W W',_;rw[a6];exact λW W' h b=>h.trans b
 have n:T (wB).drew:=by rw[a6,a5];exact St.drew (S:=λW=>Below (wB).heap.size (wB) W) (Below.refl _ _)
 have HB:Hid (w.heap.size<=B/\B0<B):=by show _/\_;rw[a5];exact⟨(ap.out _ (D1.out _ bf.out)).size,(bm.out _ bf.out).lt⟩
 clear a6 a5;refine wp_region_held (S:=T) (by kernel_rfl) ?_;simp only[Lk,Lc,Lo,Nat.reduceAdd,Li,Lj,Lp,Lm,Ll];show wpAnyH _ _ _ _ _ _ _ _ (wB).drew;generalize (wB).drew=w0 at n|-;(refine tkH 0 (.pointer (some ⟨R.g,0,none⟩)) rfl (Qd rfl (λW hW=>by(go_simp))) ?_;simp only[Act.put,Qa,Qb,Qc]);(refine tkH 1 (.pointer (some ⟨R.g,0,none⟩)) rfl (Qd rfl (λW hW=>by(go_simp))) ?_;simp only[Act.put,Qa,Qb,Qc]);(refine tkH 2 (.pointer (some ⟨R.g,0,none⟩)) rfl (Qd rfl (λW hW=>by(go_simp))) ?_;simp only[Act.put,Qa,Qb,Qc]);(refine tkH 3 (.pointer (some ⟨R.g,0,none⟩)) rfl (Qd rfl (λW hW=>by(go_simp))) ?_;simp only[Act.put,Qa,Qb,Qc]);(refine tkH 4 _ rfl (JI rfl 25 _ rfl ⟨R.g,0,none⟩ rfl R.q.cells.toList _ (λW hW=>Acg (R:=R) (((ae.out _ (D1.out _ (t0.out _ hW)))).row)) Tryz.underlying25 rfl (by kernel_rfl)) ?_;simp only[Act.put,Qa,Qb,Qc]);simp only[Nw];(refine tkH 6 (.pointer (some ⟨R.g,0,none⟩)) rfl (Qd rfl (λW hW=>by(go_simp))) ?_;simp only[Act.put,Qa,Qb,Qc]);(refine tkH 7 (.pointer (some ⟨R.g,0,none⟩)) rfl (Qd rfl (λW hW=>by(go_simp))) ?_;simp only[Act.put,Qa,Qb,Qc]);(refine tkH 8 (.pointer (some ⟨R.g,0,none⟩)) rfl (Qd rfl (λW hW=>by(go_simp))) ?_;simp only[Act.put,Qa,Qb,Qc]);(refine tkH 9 (.pointer (some ⟨R.g,4,none⟩)) rfl (Qd rfl (λW hW=>by(go_simp))) ?_;simp only[Act.put,Qa,Qb,Qc]);(refine tkH 10 (.int .i64 R.fuel) rfl (Qd rfl (λW hW=>by((have c:=((ae.out _ (D1.out _ (t0.out _ hW)))).row.cellv (i:=4) (v:=.int .i64 R.fuel) rfl;go_simp)))) ?_;simp only[Act.put,Qa,Qb,Qc]);(refine tkH 11 (.pointer (some ⟨R.g,0,none⟩)) rfl (Qd rfl (λW hW=>by(go_simp))) ?_;simp only[Act.put,Qa,Qb,Qc]);(refine tkH 12 (.pointer (some ⟨R.g,0,none⟩)) rfl (Qd rfl (λW hW=>by(go_simp))) ?_;simp only[Act.put,Qa,Qb,Qc]);(refine tkH 13 (.pointer (some ⟨R.g,11,none⟩)) rfl (Qd rfl (λW hW=>by(go_simp))) ?_;simp only[Act.put,Qa,Qb,Qc]);(refine tkH 14 (R.mv) rfl (Qd rfl (λW hW=>by((have c:=((ae.out _ (D1.out _ (t0.out _ hW)))).row.cellv (i:=11) (v:=R.mv) rfl;go_simp)))) ?_;simp only[Act.put,Qa,Qb,Qc]);apply AbM (F:=λq s W=>T W/\(q.params=R.q.params/\q.V=R.q.V/\q.body=R.q.body)/\q.ok W/\RowB W 3 q.va/\RowB W 65 q.ba/\Row W s 38 cp0.cells/\B<=s)
 case main=>
  intro j5;apply AbM (F:=λq s W=>T W/\(q.params=R.q.params/\q.V=R.q.V/\q.body=R.q.body)/\q.ok W/\RowB W 3 q.va/\RowB W 65 q.ba/\Row W s 38 cp0.cells/\B<=s)
  case main=>
   intro j4;apply AbL (F:=λq W=>T W/\(q.params=R.q.params/\q.V=R.q.V/\q.body=R.q.body)/\q.ok W/\RowB W 3 q.va/\RowB W 65 q.ba)
   case main=>
    intro j3;apply Ahv (F:=λs W=>T W/\Row W s 38 cp0.cells/\B<=s)
    case main=>
     intro j2;apply AbL (F:=λq W=>T W/\(q.params=R.q.params/\q.V=R.q.V/\q.body=R.q.body)/\q.ok W/\RowB W 3 q.va/\RowB W 65 q.ba)
     case main=>
      intro j1;refine wpAnyH_all (rs:=[5,17]) (by kernel_rfl) (by simp) (λi hi=>?_);simp only[Ls,Lw,or_false]at hi;rcases hi with rfl|rfl
      ·skip;refine Qf rfl rfl (λK2 j=>?_);refine Qo 26 #[.agg R.q.cells] (w1:=w0) (by go_simp) ((Yy R.q w0 ((ae.out _ (D1.out _ (t0.out _ n)))).rd.pok (by have:=ci.out;omega) ck.out).mono ?_);rintro e w1 ⟨q,rfl,a9,bc,bd,okq,qva,qba,bb⟩;refine⟨_,rfl,?_⟩;refine j _ _ ?_;clear j K2;simp only[Act.put,Qa,Qb,Qc];have hq:=And.intro a9 (And.intro bc bd);replace n:=sB.out _ _ n (bb.mono (sz.out _ n));clear bb a9 bc bd;refine⟨n,?_⟩;exact j1 q w1 ⟨n,hq,okq,qva,qba⟩
      ·skip;refine Qf rfl rfl (λK2 j=>?_);refine QD 38 rfl _ _ (K6 _) rfl ?_;intro s w1 hg r3 bx;refine j _ _ ?_;clear j K2;simp only[Act.put,Qa,Qb,Qc];have l3:B<=s:=Ld (sz.out _ n) hg;replace n:=sB.out _ _ n ((bx.mono hg).mono (sz.out _ n));clear bx hg;refine⟨n,?_⟩;exact j2 s w1 ⟨n,r3,l3⟩
     case tail=>
      rintro q w0 ⟨n,hq,okq,qva,qba⟩;refine wpAnyH_all (rs:=[15,17]) (by kernel_rfl) (by simp) (λi hi=>?_);simp only[Ls,Lw,or_false]at hi;rcases hi with rfl|rfl
      ·skip;refine Qf rfl rfl (λK2 j=>?_);refine Qo 32 #[R.mv] (w1:=w0) (by go_simp) ((Aar ((ae.out _ (D1.out _ (t0.out _ n)))).own (by have:=Hm.out;omega)).mono ?_);rintro e w1 ⟨rfl,bb⟩;refine⟨_,rfl,?_⟩;refine j _ _ ?_;clear j K2;simp only[Act.put,Qa,Qb,Qc];replace okq:=okq.go bb;replace qva:=qva.go bb;replace qba:=qba.go bb;replace n:=sB.out _ _ n (bb.mono (sz.out _ n));clear bb;refine⟨n,?_⟩;have am:∀W:World,(Instr.build 38 #[(0,q.val),(2,.int .i64 R.fuel),(4,.agg (QF (R.ms.map MtV.m)).cells)]).run Tryz.prog W=.ok (.agg (cpS q R.fuel (QF (R.ms.map MtV.m))).cells) W:=λW=>by kernel_rfl
       (refine tkH 16 (.agg (cpS q R.fuel (QF (R.ms.map MtV.m))).cells) rfl (Qd rfl (λW hW=>by(exact Zy 38 [_,_,_] rfl _ (by exact am W)))) ?_;simp only[Act.put,Qa,Qb,Qc]);clear am;exact j3 q w1 ⟨n,hq,okq,qva,qba⟩
      ·skip;refine Qf rfl rfl (λK2 j=>?_);refine QD 38 rfl _ _ (K6 _) rfl ?_;intro s w1 hg r3 bx;refine j _ _ ?_;clear j K2;simp only[Act.put,Qa,Qb,Qc];have l3:B<=s:=Ld (sz.out _ n) hg;replace okq:=okq.go (bx.mono hg);replace qva:=qva.go (bx.mono hg);replace qba:=qba.go (bx.mono hg);replace n:=sB.out _ _ n ((bx.mono hg).mono (sz.out _ n));clear bx hg;refine⟨n,?_⟩;exact j4 q s w1 ⟨n,hq,okq,qva,qba,r3,l3⟩
    case tail=>
     rintro s w0 ⟨n,r3,l3⟩;(refine wpAnyH_all (rs:=[5]) (by kernel_rfl) (by simp) (λi hi=>?_);obtain rfl:i=5:=by simpa using hi);refine Qf rfl rfl (λK2 j=>?_);refine Qo 26 #[.agg R.q.cells] (w1:=w0) (by go_simp) ((Yy R.q w0 ((ae.out _ (D1.out _ (t0.out _ n)))).rd.pok (by have:=ci.out;omega) ck.out).mono ?_);rintro e w1 ⟨q,rfl,a9,bc,bd,okq,qva,qba,bb⟩;refine⟨_,rfl,?_⟩;refine j _ _ ?_;clear j K2;simp only[Act.put,Qa,Qb,Qc];replace r3:=r3.below bb r3.lt;have hq:=And.intro a9 (And.intro bc bd);replace n:=sB.out _ _ n (bb.mono (sz.out _ n));clear bb a9 bc bd;refine⟨n,?_⟩;exact j4 q s w1 ⟨n,hq,okq,qva,qba,r3,l3⟩
   case tail=>
    rintro q w0 ⟨n,hq,okq,qva,qba⟩;(refine wpAnyH_all (rs:=[17]) (by kernel_rfl) (by simp) (λi hi=>?_);obtain rfl:i=17:=by simpa using hi);refine Qf rfl rfl (λK2 j=>?_);refine QD 38 rfl _ _ (K6 _) rfl ?_;intro s w1 hg r3 bx;refine j _ _ ?_;clear j K2;simp only[Act.put,Qa,Qb,Qc];have l3:B<=s:=Ld (sz.out _ n) hg;replace okq:=okq.go (bx.mono hg);replace qva:=qva.go (bx.mono hg);replace qba:=qba.go (bx.mono hg);replace n:=sB.out _ _ n ((bx.mono hg).mono (sz.out _ n));clear bx hg;refine⟨n,?_⟩;exact j5 q s w1 ⟨n,hq,okq,qva,qba,r3,l3⟩
  case tail=>
   rintro q s w0 ⟨n,hq,okq,qva,qba,r3,l3⟩;(refine wpAnyH_all (rs:=[15]) (by kernel_rfl) (by simp) (λi hi=>?_);obtain rfl:i=15:=by simpa using hi);refine Qf rfl rfl (λK2 j=>?_);refine Qo 32 #[R.mv] (w1:=w0) (by go_simp) ((Aar ((ae.out _ (D1.out _ (t0.out _ n)))).own (by have:=Hm.out;omega)).mono ?_);rintro e w1 ⟨rfl,bb⟩;refine⟨_,rfl,?_⟩;refine j _ _ ?_;clear j K2;simp only[Act.put,Qa,Qb,Qc];replace okq:=okq.go bb;replace qva:=qva.go bb;replace qba:=qba.go bb;replace r3:=r3.below bb r3.lt;replace n:=sB.out _ _ n (bb.mono (sz.out _ n));clear bb;refine⟨n,?_⟩;have am:∀W:World,(Instr.build 38 #[(0,q.val),(2,.int .i64 R.fuel),(4,.agg (QF (R.ms.map MtV.m)).cells)]).run Tryz.prog W=.ok (.agg (cpS q R.fuel (QF (R.ms.map MtV.m))).cells) W:=λW=>by kernel_rfl
   (refine tkH 16 (.agg (cpS q R.fuel (QF (R.ms.map MtV.m))).cells) rfl (Qd rfl (λW hW=>by(exact Zy 38 [_,_,_] rfl _ (by exact am W)))) ?_;simp only[Act.put,Qa,Qb,Qc]);clear am;exact j5 q s w1 ⟨n,hq,okq,qva,qba,r3,l3⟩
 case tail=>
  rintro q s w0 ⟨n,hq,okq,qva,qba,r3,l3⟩;(refine wpAnyH_all (rs:=[18]) (by kernel_rfl) (by simp) (λi hi=>?_);obtain rfl:i=18:=by simpa using hi);refine Qf rfl rfl (λK2 j=>?_);refine Q6 38 _ _ rfl s (cpS q R.fuel (QF (R.ms.map MtV.m))).cells rfl rfl 38 _ r3 (by kernel_rfl) rfl (by simp[CpV.cells,Value.oneCell']) ?_;intro w1 r4 o4;refine j _ _ ?_;clear j K2;simp only[Act.put,Qa,Qb,Qc];have b6:=XY okq qva qba (λi cs r=>r.only o4 (ZW r r3 (by decide))) (λi cs r=>r.only o4 (ZW r r3 (by decide)));have cb:=qva.only o4 r3 (by decide);have ca:=qba.only o4 r3 (by decide);have cm:=sB.out _ _ n (o4.below l3);have ag:=t0.out _ cm;refine⟨cm,?_⟩;refine wpAnyH_done (by kernel_rfl) ?_ _;have Hq:=Lh hq;clear n cm hq okq qva qba r3 o4 t0 sz sB;obtain⟨S2,o⟩:∃S:World->Prop,S=(λW=>S1 W/\q.ok W/\RowB W 3 q.va/\RowB W 65 q.ba/\Row W s 38 (cpS q R.fuel (QF (R.ms.map MtV.m))).cells):=⟨_,rfl⟩;have d7:St S2:=by rw[o];infer_instance
  have D2:Hid (∀W,S2 W->S1 W):=by show ∀W,_;rw[o];exact λW h=>h.1
  have cc:Hid (∀W,S2 W->q.ok W):=by show ∀W,_;rw[o];exact λW h=>h.2.1
  have ce:Hid (∀W,S2 W->RowB W 3 q.va):=by show ∀W,_;rw[o];exact λW h=>h.2.2.1
  have cd:Hid (∀W,S2 W->RowB W 65 q.ba):=by show ∀W,_;rw[o];exact λW h=>h.2.2.2.1
  have dp:Hid (∀W,S2 W->Row W s 38 (cpS q R.fuel (QF (R.ms.map MtV.m))).cells):=by show ∀W,_;rw[o];exact λW h=>h.2.2.2.2
  have ak:Hid (S2 w1):=by show S2 w1;rw[o];exact⟨ag,b6,cb,ca,r4⟩
  clear o;clear ag b6 cb ca r4 bf;have c3:=(show Row _ R.g 88 R.cells from((ae.out _ (D1.out _ (D2.out _ ak.out)))).row).cellv (i:=3) (v:=.slice R.tA R.ts.length R.tcap) rfl;have c2:CmK w B0 q w1:=⟨(cc.out _ ak.out),(ce.out _ ak.out),(cd.out _ ak.out),(bm.out _ (D2.out _ ak.out)),(ap.out _ (D1.out _ (D2.out _ ak.out)))⟩;have c6:CmT w.heap.size s q R.fuel (QF (R.ms.map MtV.m)) ((R.ts.map IntsV.l).take 0) w1:=⟨.slice none 0 0,[],(dp.out _ ak.out),World.ownsRow_nil _ _ _ _,rfl,λy p=>by simp at p,λy p=>by simp at p⟩;have bn:Hid (w.heap.size<=s):=by have:=HB.out;show _<=_;omega
  have cq:Hid (B0≠s):=by have:=HB.out;show _≠_;omega
  clear l3 ak;go_wp2_with fail
  go_loopw [34] (λi wr=>∃k:Nat,i=.int .i64 (k:Int)/\k<=R.ts.length/\CmT w.heap.size s q R.fuel (QF (R.ms.map MtV.m)) ((R.ts.map IntsV.l).take k) wr/\CmK w B0 q wr) (λi _=>R.ts.length-(intOf i).toNat)
  case atStart=>exact⟨0,rfl,Nat.zero_le _,c6,c2⟩
  case round=>
   clear c6 c2;obtain⟨k,rfl,hk,⟨tv,ys,hg,aa,a1,bk,bi⟩,hK⟩:=hrel;have d5:(R.ts.length:Int)<=1000:=by have:=Hl.out;omega
   by_cases a7:k<R.ts.length
   ·skip;obtain⟨t,ht⟩:∃t,R.ts[k]? =some t:=⟨_,Lb a7⟩;have Ht:=Lh ht;have bo:Hid (t∈R.ts):=Lf ht;have ah:=Hh.out.go hK.low;obtain⟨ad,ar,az⟩:=Jt ah.rd.trd ht;rw[ar];replace az:wr.cell? (ad.add k)=some (.slice t.addr t.l.length t.cap):=az;have dc:(k:Int)<(R.ts.length:Int):=by omega
    have dd:(0:Int)<=(k:Int):=by omega
    have bj:ys.length=k:=by have h:=congrArg List.length a1;rw[Lu,L1,Lu]at h;omega
    have HK:=Lh hK;have Hg:=Lh hg;have aw:=Lh aa;have a3:=Lh a1;have cy:=Lh bk;have cx:=Lh bi;have dx:=Lh bj;have dt:=Lh ar;clear ht hK hg aa a1 bk bi bj ar ah;go_wp2_with fail
    clear az;obtain⟨V0,cn⟩:∃V,V=wr.drew:=⟨_,rfl⟩;have b0:Below wr.heap.size wr V0:=by rw[cn];exact St.drew (S:=λV=>Below wr.heap.size wr V) (Below.refl _ _)
    obtain⟨S,o⟩:∃S:World->Prop,S=(λV=>Row V s 38 #[.int .i64 q.params,.slice q.va q.V.length q.vcap,.slice q.ba q.body.length q.bcap,tv,.int .i64 R.fuel,.slice none 0 0,.int .i64 (QF (R.ms.map MtV.m)).alive,.int .i64 (QF (R.ms.map MtV.m)).killed,.int .i64 (QF (R.ms.map MtV.m)).timeout]):=⟨_,rfl⟩;have S0:Hid (∀V,S V->Row V s 38 #[.int .i64 q.params,.slice q.va q.V.length q.vcap,.slice q.ba q.body.length q.bcap,tv,.int .i64 R.fuel,.slice none 0 0,.int .i64 (QF (R.ms.map MtV.m)).alive,.int .i64 (QF (R.ms.map MtV.m)).killed,.int .i64 (QF (R.ms.map MtV.m)).timeout]):=by show ∀V,_;rw[o];exact λV h=>h
    have SI:Hid (∀V,Row V s 38 #[.int .i64 q.params,.slice q.va q.V.length q.vcap,.slice q.ba q.body.length q.bcap,tv,.int .i64 R.fuel,.slice none 0 0,.int .i64 (QF (R.ms.map MtV.m)).alive,.int .i64 (QF (R.ms.map MtV.m)).killed,.int .i64 (QF (R.ms.map MtV.m)).timeout]->S V):=by show ∀V,_;rw[o];exact λV h=>h
    have g0:=Hg.out.below b0 Hg.out.lt;have b7:=QB aw.out b0;have K0:=HK.out.keep (λi t cs r _ _=>r.below b0 r.lt) (HK.out.row.below b0 HK.out.row.lt) (HK.out.low.trans (b0.mono HK.out.low.size));have n:S V0:=SI.out _ g0;have bu:∀y∈ys,y.ok V0:=λy p=>(cy.out y p).go b0
    have br:∀y∈ys,RowB V0 3 y.addr:=λy p=>(cx.out y p).go b0
    refine J8 (last:=7) (S:=S) (by kernel_rfl) ?_;simp only[Lk,Lc,Lo,Nat.reduceAdd,Li,Lj,Lp,Lm,Ll];rw[<-cn];clear cn o b0 HK Hg aw cy cx;(refine Zf (i:=0) (v:=.pointer (some ⟨s,3,none⟩)) rfl (by kernel_rfl) (by kernel_rfl) (by kernel_rfl) (by kernel_rfl) (λ_ _ _ h=>h) (Qt (Qd rfl (λW hW=>by(go_simp)))) (by assumption) ?_;simp only[Act.put,Qa,Qb,Qc]);(refine Zf (i:=1) (v:=tv) rfl (by kernel_rfl) (by kernel_rfl) (by kernel_rfl) (by kernel_rfl) (λ_ _ _ h=>h) (Qt (Qd rfl (λW hW=>by((have c:=(S0.out W hW).cellv (i:=3) (v:=tv) rfl;go_simp))))) (by assumption) ?_;simp only[Act.put,Qa,Qb,Qc]);(refine Zf (i:=2) (v:=.slice t.addr t.l.length t.cap) rfl (by kernel_rfl) (by kernel_rfl) (by kernel_rfl) (by kernel_rfl) (λ_ _ _ h=>h) (Qt (Qd rfl (λW hW=>by(go_simp)))) (by assumption) ?_;simp only[Act.put,Qa,Qb,Qc]);(refine Qy (rs:=[3]) (by kernel_rfl) (by simp) (λi hi=>?_);obtain rfl:i=3:=by simpa using hi);refine Qf rfl rfl (λK2 j=>?_);have a0:=(Hh.out.go K0.low).rd.tok t bo.out;obtain⟨A1,k1,V1,ab,bw,h1,h2,h3,h4,d2,db⟩:=Ek V0 t.addr t.cap t.l a0.reads (λe=>Lt (by have:=a0.nil e;have:=a0.len;have:=a0.cap;omega)) (by have:=cu.out t bo.out;omega);refine Qn (.slice A1 t.l.length k1) (w1:=V1) (QE rfl ab) ?_;refine j _ _ ?_;clear j K2;simp only[Act.put,Qa,Qb,Qc];have g1:=g0.below bw g0.lt;have own1:=QB b7 bw;have K1:=K0.keep (λi t cs r _ _=>r.below bw r.lt) (K0.row.below bw K0.row.lt) (K0.low.trans (bw.mono K0.low.size));have bv:∀y∈ys,y.ok V1:=λy p=>(bu y p).go bw
    have bs:∀y∈ys,RowB V1 3 y.addr:=λy p=>(br y p).go bw
    have c8:S V1:=SI.out _ g1;refine⟨λ_=>c8,?_⟩;clear n g0 b7 K0 bu br bw ab;(refine Qy (rs:=[4]) (by kernel_rfl) (by simp) (λi hi=>?_);obtain rfl:i=4:=by simpa using hi);refine Qf rfl rfl (λK2 j=>?_);refine Qn (.slice (some ⟨V1.heap.size,0,none⟩) 1 1) (Q0 [(0,.tmp 41)] rfl (Z8 (cells:=#[.slice A1 t.l.length k1]) Tryz.underlying26 Adp (by decide) (by decide) (by kernel_rfl) V1)) ?_;refine j _ _ ?_;clear j K2;simp only[Act.put,Qa,Qb,Qc];obtain⟨M2,aq⟩:∃M2,M2=V1.heap.size:=⟨_,rfl⟩;obtain⟨V2,bh⟩:∃V,V=V1.alloc (.cells #[.slice A1 t.l.length k1] 22):=⟨_,rfl⟩;have Mr:Row V2 M2 22 #[.slice A1 t.l.length k1]:=by rw[bh,aq];exact Row.new _ _ _
    have bw:Below V1.heap.size V1 V2:=by rw[bh];exact(Below.refl _ _).alloc (Nat.le_refl _) _
    rw[<-aq, <-bh];clear aq bh;have g2:=g1.below bw g1.lt;have ax:=QB own1 bw;have ay:=K1.keep (λi t cs r _ _=>r.below bw r.lt) (K1.row.below bw K1.row.lt) (K1.low.trans (bw.mono K1.low.size));have bz:∀y∈ys,y.ok V2:=λy p=>(bv y p).go bw
    have bt:∀y∈ys,RowB V2 3 y.addr:=λy p=>(bs y p).go bw
    have df:(IntsV.mk A1 k1 t.l).ok V2:=⟨h2,h3,h4,h1.go bw,a0.all⟩;have bq:=db.go bw;have c9:S V2:=SI.out _ g2;refine⟨λ_=>c9,?_⟩;clear c8 g1 own1 K1 bv bs bw h1 h2 h3 h4 d2 db a0;obtain⟨v3,V3,ab,be,an, -⟩:=ZA (P:=Tryz.prog) 26 22 (.slice none 0 0) 1 24 Tryz.underlying26 Ado rfl (by decide) (by decide) ax ay.low.size (Jz (cs:=[.slice A1 t.l.length k1]) Mr) (m:=1) (cap:=1) rfl (by intro u hu;rw[Lv.1 hu];rfl) (λh=>by cases h) (by have:=dx.out;omega);(refine Qy (rs:=[5]) (by kernel_rfl) (by simp) (λi hi=>?_);obtain rfl:i=5:=by simpa using hi);refine Qf rfl rfl (λK2 j=>?_);refine Qn v3 (w1:=V3) (QE rfl ab) ?_;refine j _ _ ?_;clear j K2;simp only[Act.put,Qa,Qb,Qc];have kr:∀(i:Nat) (t:TypeId) cs,Row V2 i t cs->t≠22->Row V3 i t cs:=λi t cs r h=>r.grown an (Qz ax r (λe=>h e.symm));have a4:=kr _ _ _ g2 (by decide);have bg:=QL ay.low ax an ay.low.size (Nat.le_refl _);have K3:=ay.keep (λi t cs r _ h=>kr i t cs r h) (kr _ _ _ ay.row (by decide)) bg;have av:V3.ownsRow w.heap.size 22 1 v3 (ys++[IntsV.mk A1 k1 t.l]).length (Jo (ys++[IntsV.mk A1 k1 t.l])):=by rw[Le];unfold Jo;rw[LN];exact be
    have ao:∀y∈ys++[IntsV.mk A1 k1 t.l],y.ok V3/\RowB V3 3 y.addr:=λy p=>by
     have aj:y.ok V2/\RowB V2 3 y.addr:=by
      rcases L2.1 p with h|h
      ·exact⟨bz y h,bt y h⟩
      ·rw[Lv.1 h];exact⟨df,bq⟩
     exact⟨⟨aj.1.len,aj.1.cap,aj.1.nil,Q3 aj.1.reads aj.2 (λi cs r=>kr i _ cs r (by decide)),aj.1.all⟩,QP aj.2 (λi cs r=>kr i _ cs r (by decide))⟩
    have da:S V3:=SI.out _ a4;refine⟨λ_=>da,?_⟩;obtain⟨mA,mm,mc,rfl⟩:=ZC be;clear c9 g2 ax ay bz bt df bq Mr ab an kr bg be;(refine Zf (i:=6) (v:=.pointer (some ⟨s,3,none⟩)) rfl (by kernel_rfl) (by kernel_rfl) (by kernel_rfl) (by kernel_rfl) (λ_ _ _ h=>h) (Qt (Qd rfl (λW hW=>by(go_simp)))) (by assumption) ?_;simp only[Act.put,Qa,Qb,Qc]);(refine Qy (rs:=[7]) (by kernel_rfl) (by simp) (λi hi=>?_);obtain rfl:i=7:=by simpa using hi);refine Qf rfl rfl (λK2 j=>?_);refine ZX 26 (.tmp 44) (.tmp 43) rfl s 3 rfl _ rfl [.slice mA mm mc] rfl 38 _ #[.int .i64 q.params,.slice q.va q.V.length q.vcap,.slice q.ba q.body.length q.bcap,.slice mA mm mc,.int .i64 R.fuel,.slice none 0 0,.int .i64 (QF (R.ms.map MtV.m)).alive,.int .i64 (QF (R.ms.map MtV.m)).killed,.int .i64 (QF (R.ms.map MtV.m)).timeout] a4 (by kernel_rfl) (by show 3+1<=9;omega) (by simp[Value.oneCell']) rfl ?_;intro V4 r4 o4;refine j _ _ ?_;clear j K2;simp only[Act.put,Qa,Qb,Qc];have kr:∀(i:Nat) (t:TypeId) cs,Row V3 i t cs->t≠38->Row V4 i t cs:=λi t cs r h=>r.only o4 (ZW r a4 h);have af:=Qx av o4 (Qz av a4 (by decide));have K4:=K3.keep (λi t cs r h _=>kr i t cs r h) (K3.row.only o4 cq.out) (Qp K3.low o4 bn.out);have b5:(ys++[IntsV.mk A1 k1 t.l]).map IntsV.l=(R.ts.map IntsV.l).take (k+1):=by rw[LN,a3.out,L9,L4,Ht.out];rfl
    have HT:Hid (CmT w.heap.size s q R.fuel (QF (R.ms.map MtV.m)) ((R.ts.map IntsV.l).take (k+1)) V4):=⟨⟨_,_,r4,af,b5,λy p=>⟨(ao y p).1.len,(ao y p).1.cap,(ao y p).1.nil,Q3 (ao y p).1.reads (ao y p).2 (λi cs r=>kr i _ cs r (by decide)),(ao y p).1.all⟩,λy p=>QP (ao y p).2 (λi cs r=>kr i _ cs r (by decide))⟩⟩;have dq:=Lh K4;refine⟨λh=>absurd rfl h,?_⟩;refine Ka (by kernel_rfl) ?_ _;clear kr af K4 b5 r4 o4 ao a4 K3 av da S0 SI S;go_wp2_with fail
    go_roundw
    case rel=>exact⟨k+1,by go_num,by omega,HT.out,dq.out⟩
    case measure=>simp[intOf];omega
   ·obtain rfl:k=R.ts.length:=by omega
    rw[L7 (by simp)]at a1;obtain⟨tA,tc,rfl,t1,t2,t3,t4, -⟩:=Y1 aa;have di:=Xl aa;have a3:=Lh a1;have dw:Hid (tA=none->ys=[]):=λe=>Lt (by have:=t4 e;omega);have ah:=Hh.out.go hK.low;obtain⟨mA,mc,co,m1,m2,m3,m4, -⟩:=Y1 ah.own;have du:=Lh co;have d1:=ah.row.cellv (i:=11) (v:=.slice mA R.ms.length mc) (by rw[<-co];rfl);have c7:CmY w B0 q tA ys wr:=⟨hK,t1,di,bk,bi⟩;have c4:CmM w.heap.size s q R.fuel (QF (R.ms.map MtV.m)) (.slice tA ys.length tc) ((R.ms.map MtV.m).take 0) wr:=⟨.slice none 0 0,[],hg,World.ownsRow_nil _ _ _ _,rfl,λy p=>by simp at p⟩;have d6:(R.ms.length:Int)<=100000:=by have:=Hm.out;omega
    clear a7 hk aa bk bi a1 hK hg ah co m1 m2 m3 m4 t1 t2 t3 t4 di;go_wp2_with fail
    clear d1;go_loopw [51] (λi wr=>∃k:Nat,i=.int .i64 (k:Int)/\k<=R.ms.length/\CmM w.heap.size s q R.fuel (QF (R.ms.map MtV.m)) (.slice tA ys.length tc) ((R.ms.map MtV.m).take k) wr/\CmY w B0 q tA ys wr) (λi _=>R.ms.length-(intOf i).toNat)
    case atStart=>exact⟨0,rfl,Nat.zero_le _,c4,c7⟩
    case round=>
     clear c4 c7;obtain⟨k,rfl,hk,⟨mv,zs,hg,aa,ai,au⟩,hY⟩:=hrel;by_cases a7:k<R.ms.length
     ·skip;obtain⟨y,p⟩:∃y,R.ms[k]? =some y:=⟨_,Lb a7⟩;have Hy:=Lh p;have ah:=Hh.out.go hY.k.low;have dj:=ah.rd.mok y (Lf p);have de:Rd wr mA (XJ R.ms):=XC (by have h:=ah.own;rw[du.out]at h;exact h);obtain⟨ad,ar,az⟩:=KW (c:=MtV.cells) (sz:=8) (λ_=>rfl) (by decide) de p;rw[ar];have dc:(k:Int)<(R.ms.length:Int):=by omega
      have dd:(0:Int)<=(k:Int):=by omega
      have bl:zs.length=k:=by have h:=congrArg List.length ai;rw[Lu,L1,Lu]at h;omega
      have HY:=Lh hY;clear hY;have Hg:=Lh hg;clear hg;have aw:=Lh aa;clear aa;have d0:=Lh ai;clear ai;have dz:=Lh au;clear au;have dy:=Lh bl;clear bl;have dt:=Lh ar;clear ar;have cv:=Lh dj;clear dj;clear p ah de;go_wp2_with (first| (refine QT rfl 54 _ rfl (ad.add (k*8)) rfl y.cells _ az Tryz.underlying54 rfl (by kernel_rfl) ?_)| (refine QH _ rfl ?_))
      refine Stop.to ?_;refine Qj rfl 54 rfl _ _ (AaH _) rfl ?_;intro M V0 hM rM bM;go_wp2_with (refine Qs _ _ _ rfl ?_)
      refine Stop.to ?_;refine Qk rfl 54 _ _ rfl M y.cells.toArray rfl rfl 54 _ rM (by kernel_rfl) rfl (Afb y) ?_;intro V1 r1 o1;have b1:Below wr.heap.size wr V1:=(bM.mono hM).trans (o1.below hM);clear bM rM o1 az dc dd;have c0:=r1.cellv (i:=0) (v:=.slice y.A y.m.d.path.length y.cap) rfl;obtain⟨A1,k1,V2,ab,b2,dk⟩:=Ak1 V1 y (cv.out.go b1);have al:=Lh ab;have HM:=Lh hM;have ch:=Lh b1;have cr:=Lh b2;have r2:=r1.below b2 r1.lt;have cj:=Lh r2;have bp:=Lh dk;clear ab hM b1 b2 dk r1 r2;go_wp2_with (at_builtin;refine XR ?_)
      refine Stop.to ?_;refine Zm rfl _ (QE rfl al.out) ?_;clear c0 al;go_wp2_with (refine Qs _ _ _ rfl ?_)
      refine Stop.to ?_;refine Qm rfl 22 _ _ rfl M 0 rfl _ rfl [.slice A1 y.m.d.path.length k1] rfl 54 _ (MtV.mk A1 k1 y.m).cells.toArray cj.out (by kernel_rfl) (by show 0+1<=8;omega) (by simp[Value.oneCell']) rfl ?_;intro V3 r3 o3;have b3:Below wr.heap.size wr V3:=Qp (ch.out.trans (cr.out.mono ch.out.size)) o3 HM.out;have dm:=bp.out.only cj.out (by decide) o3;have ct:=Lh b3;have cw:=Lh dm;have dv:=Lh r3;have c5:=(Hg.out.below b3 Hg.out.lt).cellv (i:=5) (v:=mv) rfl;clear ch cr cj bp o3 r3 dm b3;go_wp2_with (first| (refine wpList_load_row rfl 54 _ rfl M rfl 54 (MtV.mk A1 k1 y.m).cells.toArray (0,0) _ dv.out Tryz.underlying54 rfl (by kernel_rfl) ?_)| (refine ZJ _ _ _ rfl ?_))
      refine Stop.to ?_;refine QA rfl 34 1 _ rfl 54 (MtV.mk A1 k1 y.m).cells.toArray (Z8 Tryz.underlying34 Adm (by decide) (by decide) (by kernel_rfl)) ?_;intro M2 V4 aq r4 cl;clear c5;have b4:Below wr.heap.size wr V4:=ct.out.trans ((cl.mono aq).mono ct.out.size);have dn:=cw.out.go (cl.mono aq);have Y4:=HY.out.keep (λi t cs r _ _=>r.below b4 r.lt) (HY.out.k.row.below b4 HY.out.k.row.lt) (HY.out.k.low.trans (b4.mono HY.out.k.low.size));have g4:=Hg.out.below b4 Hg.out.lt;have af:=QB aw.out b4;have z4:∀z∈zs,MtT V4 z:=λz hz=>(dz.out z hz).go b4
      obtain⟨v5,V5,ab,b8,an, -⟩:=AaY af Y4.k.low.size [MtV.mk A1 k1 y.m] (by rw[XJ,L8,List.flatMap_nil,LR];exact Jz (cs:=(MtV.mk A1 k1 y.m).cells) r4) (m:=1) (cap:=1) rfl (λe=>by cases e) (by have:=dy.out;omega);have al:=Lh ab;have kr:∀(i:Nat) (t:TypeId) cs,Row V4 i t cs->t≠54->Row V5 i t cs:=λi t cs r h=>r.grown an (Qz af r (λe=>h e.symm));have g5:=kr _ _ _ g4 (by decide);have bg:=QL Y4.k.low af an Y4.k.low.size (Nat.le_refl _);have Y5:=Y4.keep (λi t cs r _ h=>kr i t cs r h) (kr _ _ _ Y4.k.row (by decide)) bg;have ac:V5.ownsRow w.heap.size 54 8 v5 (zs++[MtV.mk A1 k1 y.m]).length (XJ (zs++[MtV.mk A1 k1 y.m])):=by rw[Le,VF];exact b8
      have z5:∀z∈zs++[MtV.mk A1 k1 y.m],MtT V5 z:=λz hz=>by
       have aj:MtT V4 z:=by
        rcases L2.1 hz with h|h
        ·exact z4 z h
        ·rw[Lv.1 h];exact dn
       exact aj.own af an
      obtain⟨nA,nm,nc,rfl⟩:=ZC ac;have H5:=Lh (And.intro ac (And.intro Y5 (And.intro z5 g5)));clear kr bg an ab b8 af g4 z4 Y4 dn b4 cl aq r4 ac Y5 z5 g5;go_wp2_with (at_builtin;refine XR ?_)
      refine Stop.to ?_;refine Zm rfl _ (QE rfl al.out) ?_;clear al;go_wp2_with (refine Qs _ _ _ rfl ?_)
      refine Stop.to ?_;refine Qm rfl 34 _ _ rfl s 5 rfl _ rfl [.slice nA nm nc] rfl 38 _ (cmC q R.fuel (QF (R.ms.map MtV.m)) (.slice tA ys.length tc) (.slice nA nm nc)) H5.out.2.2.2 (by kernel_rfl) (by show 5+1<=9;omega) (by simp[Value.oneCell']) rfl ?_;intro V6 r6 o6;obtain⟨ac,Y5,z5,g5⟩:=H5.out;have kr:∀(i:Nat) (t:TypeId) cs,Row V5 i t cs->t≠38->Row V6 i t cs:=λi t cs r h=>r.only o6 (ZW r g5 h);have b9:=Qx ac o6 (Qz ac g5 (by decide));have Y6:=Y5.keep (λi t cs r h _=>kr i t cs r h) (Y5.k.row.only o6 cq.out) (Qp Y5.k.low o6 bn.out);have dr:Hid (CmM w.heap.size s q R.fuel (QF (R.ms.map MtV.m)) (.slice tA ys.length tc) ((R.ms.map MtV.m).take (k+1)) V6):=⟨_,_,r6,b9,by rw[LN,d0.out,L9,L4,Hy.out];rfl,λz hz=>(z5 z hz).only g5 (by decide) o6⟩;have ds:=Lh Y6;clear ac Y5 z5 g5 kr b9 Y6 r6 o6;go_wp2_with fail
      go_roundw
      case rel=>exact⟨k+1,by go_num,by omega,dr.out,ds.out⟩
      case measure=>simp[intOf];omega
     ·obtain rfl:k=R.ms.length:=by omega
      rw[L7 (by simp)]at ai;obtain⟨nA,nc,rfl,n1,n2,n3,n4, -⟩:=Y1 aa;have a2:=Xl aa;have a8:nA=none->zs=[]:=λe=>Lt (by have:=n4 e;omega)
      have HY:=Lh hY;have Hg:=Lh hg;have Hn:=Lh (And.intro n1 (And.intro a2 (And.intro a8 (And.intro ai au))));clear a7 hk aa ai au n1 n2 n3 n4 a2 a8 hY hg;go_wp2_with (first| (refine wpList_load_row rfl 38 _ rfl s rfl 38 (CpV.mk q tA tc ys R.fuel nA nc zs (QF (R.ms.map MtV.m))).cells (0,0) _ Hg.out Tryz.underlying38 rfl (by kernel_rfl) ?_)| (refine Qs _ _ _ rfl ?_))
      refine Stop.to ?_;refine Qk rfl 38 _ _ rfl B0 (CpV.mk q tA tc ys R.fuel nA nc zs (QF (R.ms.map MtV.m))).cells rfl rfl 38 _ HY.out.k.row (by kernel_rfl) rfl (by simp[CpV.cells,Value.oneCell']) ?_;intro V9 r9 o9;obtain⟨n1,a2,a8,ai,au⟩:=Hn.out;have hB:=HY.out.k.row;have ki:∀(i:Nat) (t:TypeId) cs,t≠38->Row wr i t cs->Row V9 i t cs:=λi t cs h r=>r.only o9 (ZW r hB h);have cp:∀z∈zs,MtT V9 z:=λz hz=>(au z hz).only hB (by decide) o9
      have bj:ys.length=R.ts.length:=by have h:=congrArg List.length a3.out;simpa using h
      have bl:zs.length=R.ms.length:=by have h:=congrArg List.length ai;simpa using h
      have dg:∀x∈ys,x.l.length<=1000:=λx hx=>by
       have h:x.l∈R.ts.map IntsV.l:=by rw[<-a3.out];exact Nb hx
       obtain⟨t,ht,e⟩:=LK.1 h;rw[<-e];exact cu.out t ht
      have dh:CpOk V9 (CpV.mk q tA tc ys R.fuel nA nc zs (QF (R.ms.map MtV.m))):=⟨XY HY.out.k.okq HY.out.k.qva HY.out.k.qba (λi cs r=>ki i _ cs (by decide) r) (λi cs r=>ki i _ cs (by decide) r),by show q.body.length<=1000;rw[Hq.out.2.2];have:=ci.out;omega,by show q.V.length<=1000;rw[Hq.out.2.1];exact ck.out,Q3 HY.out.trd HY.out.tb (λi cs r=>ki i _ cs (by decide) r),λy p=>⟨(HY.out.yok y p).len,(HY.out.yok y p).cap,(HY.out.yok y p).nil,Q3 (HY.out.yok y p).reads (HY.out.yb y p) (λi cs r=>ki i _ cs (by decide) r),(HY.out.yok y p).all⟩,by show ys.length<=1000;have:=Hl.out;omega,dg,dw.out,Q3 n1 a2 (λi cs r=>ki i _ cs (by decide) r),λz hz=>(cp z hz).1,by show zs.length<=100000;have:=Hm.out;omega,a8⟩;have c1:CpT V9 (CpV.mk q tA tc ys R.fuel nA nc zs (QF (R.ms.map MtV.m))):=⟨QP HY.out.k.qva (λi cs r=>ki i _ cs (by decide) r),QP HY.out.k.qba (λi cs r=>ki i _ cs (by decide) r),QP HY.out.tb (λi cs r=>ki i _ cs (by decide) r),λy p=>QP (HY.out.yb y p) (λi cs r=>ki i _ cs (by decide) r),QP a2 (λi cs r=>ki i _ cs (by decide) r),λz hz=>(cp z hz).2⟩;have HF:Hid (CampR R w V9 (.returned (.agg (CpV.mk q tA tc ys R.fuel nA nc zs (QF (R.ms.map MtV.m))).cells))):=⟨_,rfl,dh,c1,by show(⟨q.params,q.V,q.body,ys.map IntsV.l,R.fuel,zs.map MtV.m,_⟩:Cd)=_;rw[Hq.out.1,Hq.out.2.1,Hq.out.2.2,a3.out,ai],Qp HY.out.k.low o9 cf.out⟩;clear n1 a2 a8 ai au hB ki cp bj bl dg dh c1 o9;go_wp2_with fail
      refine bodyPost_ret (results_cell_row Tryz.results11 _ _ B0 38 _ (0,0) _ rfl r9 Tryz.underlying38 rfl (by kernel_rfl)) rfl ?_;exact HF.out
end Go.Proofs.YtkoikjnlpifbjaaGreat
