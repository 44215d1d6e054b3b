/- Lemmas for RunnerKillsP. -/
import Derived.Test.YtkoikjnlpifbjaaGreatZk1
import Derived.Test.YtkoikjnlpifbjaaGreatZk35
set_option linter.unusedVariables false
set_option linter.unusedSimpArgs false
set_option maxRecDepth 100000
set_option maxHeartbeats 16000000
namespace Go.Proofs.YtkoikjnlpifbjaaGreat
open Go.RowKit Go.Deep
def RnV.nxt (R:RnV)(bv mv:Value)(y:MtV):RnV:={ R with n:=R.n+1,on:=true,bv:=bv,mv:=mv,ms:=R.ms++[y] }
structure NextR (lo:Nat)(R:RnV)(d:Dl)(W w':World):Prop where
 ex:∃bv mv y,RnIn lo (R.nxt bv mv y) w'/\y.m=QV R.q d (R.ts.map IntsV.l) R.fuel/\KpW (λi=>i=R.g\/R.mv.ownBlock=some i) W w'/\(mv.ownBlock=R.mv.ownBlock\/∀k,mv.ownBlock=some k->W.heap.size<=k)
theorem MtT.tk{y:MtV}{W W':World}(h:MtT W y)(k:TKeep W W'):MtT W' y:=h.same λ_ cs _ r=>k _ _ cs r (by decide) (by decide)
theorem AdN{lo:Nat}(R:RnV)(W:World)(h:RnIn lo R W)(hn:R.n=R.xs.length)(hx:R.xs.length<=1000000):
 Calls Tryz.prog 9 #[.pointer (some ⟨R.g,0,none⟩)] W λe w'=>e=.returned (.bool false)/\Below W.heap.size W w':=by
 have c:=Lh (EW R W h (by omega) hx);have d:(R.xs.length:Int)-(R.n:Int)=0:=by omega
 rw[d]at c;clear h hn hx d;go_enter Tryz.func9,Tryz.ntmps9
 go_wp2_with fail
 refine c.out.mono ?_;rintro e j ⟨rfl,i⟩;go_wp2
 go_ret
 exact⟨rfl,i⟩
theorem Aiw{lo:Nat}(R:RnV)(x:DlV)(W:World)(h:RnIn lo R W)(hlo:lo<=W.heap.size)(hx:R.xs[R.n]? =some x)(hnm:R.ms.length=R.n)(hxl:R.xs.length<=100000)(hbl:R.q.body.length<=40)(hl:R.ts.length<=20)(htl:∀x∈R.ts,x.l.length<=1000)(hc:Kt R.q x.d (R.ts.map IntsV.l) R.fuel=0):
 Calls Tryz.prog 9 #[.pointer (some ⟨R.g,0,none⟩)] W λe w'=>e=.returned (.bool true)/\NextR lo R x.d W w':=by
 obtain⟨xA,xc,d⟩:=x;have ax:=(La.1 hx).1;have Hl:=Lh (EW R W h (by omega) (by omega));have hz:(((R.xs.length:Int)-(R.n:Int))==0)=false:=by simp;omega
 have Hh:=Lh h;have az:=Lh hlo;have Hx:=Lh hx;have a0:=Lh hnm;have ar:=Lh hxl;have al:=Lh ax;have Hj:Hid (∀V,RnIn lo R V->DlT V ⟨xA,xc,d⟩->_):=λV a b=>Ad3 R xA xc d V a b hbl hl htl hc
 clear h hlo hx hnm hxl ax hbl hl htl hc;go_enter Tryz.func9,Tryz.ntmps9
 go_wp2_with fail
 refine Hl.out.mono ?_;rintro e W1 ⟨rfl,b1⟩;clear Hl;go_wp2_with fail
 obtain⟨V0,ap⟩:∃V,V=W1.drew:=⟨_,rfl⟩;have b0:Below W.heap.size W V0:=by rw[ap];exact St.drew (S:=λV=>Below W.heap.size W V) b1
 have h0:=Hh.out.go b0;obtain⟨S,ao⟩:∃S:World->Prop,S=(λV=>∃dn p,Row V R.g 88 (R.cz (R.n:Int) dn 0 p R.mv)/\Rd V R.aA (Yb R.xs)):=⟨_,rfl⟩;have S0:Hid (∀V,S V->∃dn p,Row V R.g 88 (R.cz (R.n:Int) dn 0 p R.mv)/\Rd V R.aA (Yb R.xs)):=by show ∀V,_;rw[ao];exact λV h=>h
 have SI:Hid (∀V dn p,Row V R.g 88 (R.cz (R.n:Int) dn 0 p R.mv)->Rd V R.aA (Yb R.xs)->S V):=by show ∀V dn p,_;rw[ao];exact λV dn p h k=>⟨dn,p,h,k⟩
 have hS:S V0:=SI.out _ _ _ h0.row h0.rd.ard;obtain⟨ad,hA, -⟩:=AfT h0.rd.ard Hx.out;have HA:=Lh hA;refine J8 (last:=20) (S:=S) (by kernel_rfl) ?_;simp only[Lk,Lc,Lo,Nat.reduceAdd,Li,Lj,Lp,Lm,Ll];rw[<-ap];clear ap b1 ao hA;have a3:(R.n:Int)<(R.xs.length:Int):=by have:=al.out;omega
 have a1:(0:Int)<=(R.n:Int):=by omega
 (refine Zf (i:=0) (v:=.pointer (some ⟨R.g,0,none⟩)) rfl (by kernel_rfl) (by kernel_rfl) (by kernel_rfl) (by kernel_rfl) (λ_ _ _ h=>h) (Qt (Qd rfl (λW s=>by(go_simp)))) (by assumption) ?_;simp only[Act.put,Qa,Qb,Qc]);(refine Zf (i:=1) (v:=.pointer (some ⟨R.g,0,none⟩)) rfl (by kernel_rfl) (by kernel_rfl) (by kernel_rfl) (by kernel_rfl) (λ_ _ _ h=>h) (Qt (Qd rfl (λW s=>by(go_simp)))) (by assumption) ?_;simp only[Act.put,Qa,Qb,Qc]);(refine Zf (i:=2) (v:=.pointer (some ⟨R.g,0,none⟩)) rfl (by kernel_rfl) (by kernel_rfl) (by kernel_rfl) (by kernel_rfl) (λ_ _ _ h=>h) (Qt (Qd rfl (λW s=>by(go_simp)))) (by assumption) ?_;simp only[Act.put,Qa,Qb,Qc]);(refine Zf (i:=3) (v:=.pointer (some ⟨R.g,11,none⟩)) rfl (by kernel_rfl) (by kernel_rfl) (by kernel_rfl) (by kernel_rfl) (λ_ _ _ h=>h) (Qt (Qd rfl (λW s=>by(go_simp)))) (by assumption) ?_;simp only[Act.put,Qa,Qb,Qc]);(refine Zf (i:=4) (v:=R.mv) rfl (by kernel_rfl) (by kernel_rfl) (by kernel_rfl) (by kernel_rfl) (λ_ _ _ h=>h) (Qt (Qd rfl (λW s=>by((obtain⟨_,_,hb,_⟩:=S0.out W s;have c:=hb.cellv (i:=11) (v:=R.mv) rfl;go_simp))))) (by assumption) ?_;simp only[Act.put,Qa,Qb,Qc]);(refine Zf (i:=5) (v:=.pointer (some ⟨R.g,0,none⟩)) rfl (by kernel_rfl) (by kernel_rfl) (by kernel_rfl) (by kernel_rfl) (λ_ _ _ h=>h) (Qt (Qd rfl (λW s=>by(go_simp)))) (by assumption) ?_;simp only[Act.put,Qa,Qb,Qc]);(refine Zf (i:=6) (v:=.pointer (some ⟨R.g,0,none⟩)) rfl (by kernel_rfl) (by kernel_rfl) (by kernel_rfl) (by kernel_rfl) (λ_ _ _ h=>h) (Qt (Qd rfl (λW s=>by(go_simp)))) (by assumption) ?_;simp only[Act.put,Qa,Qb,Qc]);(refine Zf (i:=7) (v:=.pointer (some ⟨R.g,0,none⟩)) rfl (by kernel_rfl) (by kernel_rfl) (by kernel_rfl) (by kernel_rfl) (λ_ _ _ h=>h) (Qt (Qd rfl (λW s=>by(go_simp)))) (by assumption) ?_;simp only[Act.put,Qa,Qb,Qc]);(refine Zf (i:=8) (v:=.pointer (some ⟨R.g,0,none⟩)) rfl (by kernel_rfl) (by kernel_rfl) (by kernel_rfl) (by kernel_rfl) (λ_ _ _ h=>h) (Qt (Qd rfl (λW s=>by(go_simp)))) (by assumption) ?_;simp only[Act.put,Qa,Qb,Qc]);(refine Zf (i:=9) (v:=.pointer (some ⟨R.g,5,none⟩)) rfl (by kernel_rfl) (by kernel_rfl) (by kernel_rfl) (by kernel_rfl) (λ_ _ _ h=>h) (Qt (Qd rfl (λW s=>by(go_simp)))) (by assumption) ?_;simp only[Act.put,Qa,Qb,Qc]);(refine Zf (i:=10) (v:=.slice (some ad) R.xs.length R.acap) rfl (by kernel_rfl) (by kernel_rfl) (by kernel_rfl) (by kernel_rfl) (λ_ _ _ h=>h) (Qt (Qd rfl (λW s=>by((obtain⟨_,_,hb,_⟩:=S0.out W s;have c:=hb.cellv (i:=5) (v:=.slice (some ad) R.xs.length R.acap) (by rw[<-HA.out];rfl);go_simp))))) (by assumption) ?_;simp only[Act.put,Qa,Qb,Qc]);(refine Zf (i:=11) (v:=.pointer (some ⟨R.g,0,none⟩)) rfl (by kernel_rfl) (by kernel_rfl) (by kernel_rfl) (by kernel_rfl) (λ_ _ _ h=>h) (Qt (Qd rfl (λW s=>by(go_simp)))) (by assumption) ?_;simp only[Act.put,Qa,Qb,Qc]);(refine Qy (rs:=[12]) (by kernel_rfl) (by simp) (λi hi=>?_);obtain rfl:i=12:=by simpa using hi);refine Qf rfl rfl (λK2 j=>?_);refine Qo 12 #[.pointer (some ⟨R.g,0,none⟩)] (w1:=V0) (by go_simp) ((EF R.g R.cells (R.n:Int) V0 h0.row rfl).mono ?_);rintro e V1 ⟨rfl,rfl⟩;refine⟨_,rfl,?_⟩;refine j _ _ ?_;clear j K2;simp only[Act.put,Qa,Qb,Qc];refine⟨λ_=>hS,?_⟩;(refine Zf (i:=13) (v:=.pointer (some (ad.add (R.n*3)))) rfl (by kernel_rfl) (by kernel_rfl) (by kernel_rfl) (by kernel_rfl) (λ_ _ _ h=>h) (Qt (Qd rfl (λW s=>by(go_simp)))) (by assumption) ?_;simp only[Act.put,Qa,Qb,Qc]);(refine Zf (i:=14) (v:=_) rfl (by kernel_rfl) (by kernel_rfl) (by kernel_rfl) (by kernel_rfl) (λ_ _ _ h=>h) (Qt (JI rfl 50 _ rfl (ad.add (R.n*3)) rfl (DlV.cells ⟨xA,xc,d⟩).toList _ (λV hV=>by obtain⟨_,_,_,hr⟩:=S0.out V hV;obtain⟨a2,e2,h2⟩:=AfT hr Hx.out;rw[HA.out]at e2;injection e2 with e2;rw[e2];exact h2) Tryz.underlying50 rfl (by kernel_rfl))) (by assumption) ?_;simp only[Act.put,Qa,Qb,Qc]);(refine Qy (rs:=[15]) (by kernel_rfl) (by simp) (λi hi=>?_);obtain rfl:i=15:=by simpa using hi);refine Qf rfl rfl (λK2 j=>?_);refine Qo 27 #[.pointer (some ⟨R.g,0,none⟩),.agg #[.slice xA d.path.length xc,.int .i64 d.op,.int .i64 d.n]] (w1:=V1) (by go_simp;try rfl) ((Hj.out V1 h0 (h0.rd.aok _ (Lf Hx.out))).mono ?_)
 rintro e V2 ⟨p,y,rfl,hy,ay,ac,ag⟩;refine⟨_,rfl,?_⟩;refine j _ _ ?_;clear j K2;simp only[Act.put,Qa,Qb,Qc];have au:S V2:=SI.out _ 1 p ac.row ac.rd.ard;refine⟨λ_=>au,?_⟩;clear hS h0;(refine Qy (rs:=[16]) (by kernel_rfl) (by simp) (λi hi=>?_);obtain rfl:i=16:=by simpa using hi);refine Qf rfl rfl (λK2 j=>?_);refine Qn (.slice (some ⟨V2.heap.size,0,none⟩) 1 1) (Q0 [(0,.tmp 25)] rfl (Z8 (cells:=y.cells.toArray) Tryz.underlying34 Adm (by decide) (by decide) (by kernel_rfl) V2)) ?_;refine j _ _ ?_;clear j K2;simp only[Act.put,Qa,Qb,Qc];obtain⟨M2,am⟩:∃M2,M2=V2.heap.size:=⟨_,rfl⟩;obtain⟨V3,ae⟩:∃V,V=V2.alloc (.cells y.cells.toArray 54):=⟨_,rfl⟩;have Mr:Row V3 M2 54 y.cells.toArray:=by rw[ae,am];exact Row.new _ _ _
 have Mb:Below V2.heap.size V2 V3:=by rw[ae];exact(Below.refl _ _).alloc (Nat.le_refl _) _
 rw[<-am, <-ae];clear am ae;have o:=ac.go Mb;have aj:=ay.tk (.below Mb);have av:S V3:=SI.out _ 1 p o.row o.rd.ard;refine⟨λ_=>av,?_⟩;clear au;have ah:lo<=V3.heap.size:=by have:=az.out;have:=b0.size;have:=ag.size;have:=Mb.size;omega
 obtain⟨mv,V4,ai,aa,af,aw⟩:=AaY o.own ah [y] (Jz (cs:=XJ [y]) (by simpa[XJ]using Mr)) (m:=1) (cap:=1) rfl (λe=>by cases e) (by have:=a0.out;have:=al.out;have:=ar.out;show R.ms.length+1<=_;omega);(refine Qy (rs:=[17]) (by kernel_rfl) (by simp) (λi hi=>?_);obtain rfl:i=17:=by simpa using hi);refine Qf rfl rfl (λK2 j=>?_);refine Qn mv (w1:=V4) (QE rfl ai) ?_;refine j _ _ ?_;clear j K2;simp only[Act.put,Qa,Qb,Qc];have t4:TKeep V3 V4:=TKeep.own o.own af;have r4:Row V4 R.g 88 (R.cz (R.n:Int) 1 0 p R.mv):=(UQ o).grown af (Qz o.own o.row (by decide));have F4:=o.rd.keep t4;have an:S V4:=SI.out _ 1 p r4 F4.ard;refine⟨λ_=>an,?_⟩;(refine Qy (rs:=[18]) (by kernel_rfl) (by simp) (λi hi=>?_);obtain rfl:i=18:=by simpa using hi);refine Qf rfl rfl (λK2 j=>?_);refine Qn (.pointer (some ⟨R.g,0,none⟩)) (w1:=V4) (by go_simp) ?_;refine j _ _ ?_;clear j K2;simp only[Act.put,Qa,Qb,Qc];refine⟨λ_=>an,?_⟩;(refine Zf (i:=19) (v:=.pointer (some ⟨R.g,11,none⟩)) rfl (by kernel_rfl) (by kernel_rfl) (by kernel_rfl) (by kernel_rfl) (λ_ _ _ h=>h) (Qt (Qd rfl (λW s=>by(go_simp)))) (by assumption) ?_;simp only[Act.put,Qa,Qb,Qc]);have t:V4.ownsRow lo 54 8 mv (R.ms++[y]).length (XJ (R.ms++[y])):=by rw[Le,VF];exact aa
 obtain⟨mA,mm,mc,rfl⟩:=ZC aa;(refine Qy (rs:=[20]) (by kernel_rfl) (by simp) (λi hi=>?_);obtain rfl:i=20:=by simpa using hi);refine Qf rfl rfl (λK2 j=>?_);refine ZX 34 (.tmp 29) (.tmp 27) rfl R.g 11 rfl _ rfl [.slice mA mm mc] rfl 88 _ (R.cz (R.n:Int) 1 0 p (.slice mA mm mc)) r4 (by kernel_rfl) (by show 11+1<=12;omega) (by simp[Value.oneCell']) rfl ?_;intro V5 r5 o5;refine j _ _ ?_;clear j K2;simp only[Act.put,Qa,Qb,Qc];have w:Row V5 R.g 88 (R.cz (R.n:Int) 1 0 p (.slice mA mm mc)):=r5;have ab:=Qx t o5 (Qz t r4 (by decide));have t5:TKeep V4 V5:=TKeep.only o5 r4;have ew:IntKind.i64.wrap ((R.n:Int)+1)=((R.n+1:Nat):Int):=(IntWalk.i64_in _ (by have:=al.out;have:=ar.out;omega)).trans (by omega);have o6:=Zl V5 R.g 6 (.int .i64 ((R.n+1:Nat):Int));have r6:Row (V5.setCell ⟨R.g,6,none⟩ (.int .i64 ((R.n+1:Nat):Int))) R.g 88 (R.nxt p (.slice mA mm mc) y).cells:=w.set 6 _;have ak:=Qx ab o6 (Qz ab w (by decide));have t6:=TKeep.only o6 w;have u:=F4.keep (t5.trans t6);have kw:=((((KpW.of_below (X:=λi=>i=R.g\/R.mv.ownBlock=some i) b0).trans (ag.more (λk h=>.inl h))).trans (KpW.of_below Mb)).trans (KpW.grown af (λk e=>.inr e))).trans ((KpW.only (X:=λi=>i=R.g\/R.mv.ownBlock=some i) o5 (.inl rfl)).trans (KpW.only (X:=λi=>i=R.g\/R.mv.ownBlock=some i) o6 (.inl rfl)))
 have HF:Hid (NextR lo R d W (V5.setCell ⟨R.g,6,none⟩ (.int .i64 ((R.n+1:Nat):Int)))):=⟨⟨p,.slice mA mm mc,y,⟨r6,Hh.out.glo,⟨u.pok,u.va,u.ba,u.trd,u.tA,u.tok,u.tb,u.ard,u.aA,u.aok,u.bas,λz hz=>by
  rcases L2.1 hz with hz|hz
  ·exact u.mok z hz
  ·rw[Lv.1 hz];exact aj.tk (t4.trans (t5.trans t6))⟩,ak⟩,hy,kw,by
  rcases aw with h|h
  ·exact .inl h
  ·exact .inr λk e=>by rw[h]at e;injection e with e;have:=b0.size;have:=ag.size;have:=Mb.size;omega⟩⟩
 have aq:=Lh (AhB ⟨R.g,6,none⟩ (R.n:Int) _ V5 (w.cellv (i:=6) rfl) (w.free 6) ew);refine⟨λh=>absurd rfl h,?_⟩;refine Ka (by kernel_rfl) ?_ _;clear r5 w ab t5 ew o6 r6 ak t6 u kw o5 aa t r4 t4 F4 av an af aw ai o aj Mr Mb ac ag hy ay b0 ah S0 SI;go_wp2_with fail
 refine aq.out.mono ?_;rintro e V6 ⟨rfl,rfl⟩;go_wp2
 go_ret
 exact⟨rfl,HF.out⟩
structure NewR (p:PgV)(ts:List (List Int))(fuel:Int)(w w':World)(e:Ending):Prop where
 no:Zo p ts fuel≠0->e=.returned (.tuple #[.pointer none,.int .i64 (Zo p ts fuel)])
 yes:Zo p ts fuel=0->∃R:RnV,e=.returned (.tuple #[.pointer (some ⟨R.g,0,none⟩),.int .i64 0])/\RnIn w.heap.size R w'/\(R.q.params=p.params/\R.q.V=p.V/\R.q.body=p.body)/\R.ts.map IntsV.l=ts/\R.fuel=fuel/\(∀t,Fine p t->R.xs.map DlV.d=Ze p.body t)/\R.xs.length<=20000/\R.n=0/\R.ms=[]/\R.mv=.slice none 0 0
 low:Below w.heap.size w w'
def nwC (q:PgV)(tv:Value)(fuel:Int)(av:Value):Array Value:=#[.int .i64 q.params,.slice q.va q.V.length q.vcap,.slice q.ba q.body.length q.bcap,tv,.int .i64 fuel,av,.int .i64 0,.int .u32 0,.int .i32 0,.int .u32 0,.slice none 0 0,.slice none 0 0]
theorem Ado:(Tryz.prog.info? 22).map (λi=>(i.zero,i.size,i.bytes))=some (some (.slice none 0 0),1,24):=by kernel_rfl
structure NwT (lo g:Nat)(q:PgV)(fuel:Int)(ts:List (List Int))(W:World):Prop where
 ex:∃tv ys,Row W g 88 (nwC q tv fuel (.slice none 0 0))/\W.ownsRow lo 22 1 tv ys.length (Jo ys)/\ys.map IntsV.l=ts/\(∀y∈ys,y.ok W)/\(∀y∈ys,RowB W 3 y.addr)
theorem XY{q:PgV}{W W':World}(h:q.ok W)(a:RowB W 3 q.va)(b:RowB W 65 q.ba)(ki:∀(i:Nat) cs,Row W i 3 cs->Row W' i 3 cs)(kn:∀(i:Nat) cs,Row W i 65 cs->Row W' i 65 cs):q.ok W':=
 ⟨h.par,h.vlen,h.vmax,h.vnil,Q3 h.vrd a ki,h.vin,h.blen,h.bmax,h.bnil,Q3 h.brd b kn,h.bin⟩
theorem AaB{p:PgV}(h:QX p=0):p.V.length<=1000:=by
 have c:JB p.params p.V=0:=by
  unfold QX at h;split at h
  ·rename_i d;exact absurd h d
  split at h
  ·exact absurd h (by decide)
  ·rename_i d;simpa using d
 unfold JB at c;split at c
 ·rename_i e;have:=e.2.1;have:=e.2.2.1;omega
 ·cases c
structure NwK (w:World)(G:Nat)(p q:PgV)(W:World):Prop where
 okq:q.ok W
 qva:RowB W 3 q.va
 qba:RowB W 65 q.ba
 row:Row W G 25 p.cells
 low:Below w.heap.size w W
theorem NwK.keep{w W W':World}{G:Nat}{p q:PgV}(h:NwK w G p q W)(k:∀(i:Nat) (t:TypeId) cs,Row W i t cs->t≠88->t≠22->Row W' i t cs)(b:Below w.heap.size w W'):NwK w G p q W':=
 ⟨XY h.okq h.qva h.qba (λi cs r=>k i _ cs r (by decide) (by decide)) (λi cs r=>k i _ cs r (by decide) (by decide)),QP h.qva (λi cs r=>k i _ cs r (by decide) (by decide)),QP h.qba (λi cs r=>k i _ cs r (by decide) (by decide)),k _ _ _ h.row (by decide) (by decide),b⟩
theorem Ab6 (p:PgV)(A:Option Addr)(cap:Nat)(ts:List IntsV)(fuel:Int)(w:World)(hok:p.ok w)(hbl:p.body.length<=999)(hr:Rd w A (Jo ts))(hot:∀x∈ts,x.ok w)(hl:ts.length<=1000):
 Calls Tryz.prog 8 #[.agg p.cells,.slice A ts.length cap,.int .i64 fuel] w λe w'=>NewR p (ts.map IntsV.l) fuel w w' e:=by
 have bz:=Lh hbl;have Hl:=Lh hl;have cu:=Lh hok;have Hr:=Lh hr;have cv:=Lh hot;clear hbl hl;go_enter Tryz.func8,Tryz.ntmps8
 obtain⟨S0,d⟩:∃S:World->Prop,S=(λW=>Below w.heap.size w W/\p.ok W/\Rd W A (Jo ts)):=⟨_,rfl⟩;have c1:St S0:=by rw[d];infer_instance
 have ai:Hid (∀W,S0 W->Below w.heap.size w W):=by show ∀W,_;rw[d];exact λW h=>h.1
 have au:Hid (∀W,S0 W->p.ok W):=by show ∀W,_;rw[d];exact λW h=>h.2.1
 have bx:Hid (∀W,S0 W->Rd W A (Jo ts)):=by show ∀W,_;rw[d];exact λW h=>h.2.2
 have b8:Hid (S0 w):=by show S0 w;rw[d];exact⟨Below.refl _ _,hok,hr⟩
 clear d;clear hok hr hot;go_wp2_with (refine Qq _ _ rfl ?_)
 refine Stop.to ?_;refine Qe rfl 25 _ rfl p.cells rfl ?_;intro aj b7 hG rG bG;have j:=c1.go b8.out (bG.mono hG);obtain⟨S1,d⟩:∃S:World->Prop,S=(λW=>S0 W/\Row W aj 25 p.cells):=⟨_,rfl⟩;have b6:St S1:=by rw[d];infer_instance
 have D1:Hid (∀W,S1 W->S0 W):=by show ∀W,_;rw[d];exact λW h=>h.1
 have ar:Hid (∀W,S1 W->Row W aj 25 p.cells):=by show ∀W,_;rw[d];exact λW h=>h.2
 have s:Hid (S1 b7):=by show S1 b7;rw[d];exact⟨j,rG⟩
 clear d;clear j b8 hG rG bG;go_wp2_with (refine wpList_load_row rfl 25 _ rfl aj rfl 25 p.cells (0,0) _ (ar.out _ s.out) Tryz.underlying25 rfl (by kernel_rfl) ?_)
 refine(Ui p (by have:=bz.out;omega) b7 (au.out _ (D1.out _ s.out))).mono ?_;rintro e cn ⟨rfl,bb⟩;have j:=b6.go s.out (bb);replace s:=Lh j;clear j bb;obtain⟨z,hz⟩:∃z,z=QX p:=⟨_,rfl⟩;rw[<-hz];by_cases h0:z=0;rotate_left
 ·have cy:(z != 0)=true:=by simpa using h0
  have hb:Zo p (ts.map IntsV.l) fuel=z:=by unfold Zo;rw[<-hz,if_pos h0]
  have HF:Hid (NewR p (ts.map IntsV.l) fuel w cn (.returned (.tuple #[.pointer none,.int .i64 z]))):=⟨λ_=>by rw[hb],λh=>absurd (hb.symm.trans h) h0,(ai.out _ (D1.out _ s.out))⟩;clear hz h0 hb;go_wp2_with fail
  refine bodyPost_ret (results_tmp2 Tryz.results8 _ _ _) rfl ?_;exact HF.out
 have Hz:Hid (QX p=0):=hz.symm.trans h0;subst h0;clear hz;have c0:=(ar.out _ s.out).cellv (i:=0) (v:=.int .i64 p.params) rfl;go_wp2_with fail
 refine(AbH p.params fuel A cap ts cn (bx.out _ (D1.out _ s.out)) (by have:=Hl.out;omega)).mono ?_;rintro e co ⟨rfl,bb⟩;have j:=b6.go s.out (bb);replace s:=Lh j;clear j bb;clear c0;obtain⟨z,hz⟩:∃z,z=Z3 p.params (ts.map IntsV.l) fuel:=⟨_,rfl⟩;rw[<-hz];have hb:Zo p (ts.map IntsV.l) fuel=z:=by unfold Zo;rw[if_neg (by rw[Hz.out];simp), <-hz]
 have Hb:=Lh hb;clear hz hb;by_cases h0:z=0;rotate_left
 ·have cy:(z != 0)=true:=by simpa using h0
  have HF:Hid (NewR p (ts.map IntsV.l) fuel w co (.returned (.tuple #[.pointer none,.int .i64 z]))):=⟨λ_=>by rw[Hb.out],λh=>absurd (Hb.out.symm.trans h) h0,(ai.out _ (D1.out _ s.out))⟩;clear h0 Hb;go_wp2_with fail
  refine bodyPost_ret (results_tmp2 Tryz.results8 _ _ _) rfl ?_;exact HF.out
 subst h0;have b9:Hid (∀x∈ts,x.l.length<=1000):=YS Hb.out;go_wp2_with (refine wpList_load_row rfl 25 _ rfl aj rfl 25 p.cells (0,0) _ (ar.out _ s.out) Tryz.underlying25 rfl (by kernel_rfl) ?_)
 refine(Yy p co (au.out _ (D1.out _ s.out)) (by have:=bz.out;omega) (AaB Hz.out)).mono ?_;rintro e cp ⟨q,rfl,cj,ck,cl,okq,qva,qba,bb⟩;have j:=b6.go s.out (bb);obtain⟨S2,d⟩:∃S:World->Prop,S=(λW=>S1 W/\q.ok W/\RowB W 3 q.va/\RowB W 65 q.ba):=⟨_,rfl⟩;have c5:St S2:=by rw[d];infer_instance
 have D2:Hid (∀W,S2 W->S1 W):=by show ∀W,_;rw[d];exact λW h=>h.1
 have bt:Hid (∀W,S2 W->q.ok W):=by show ∀W,_;rw[d];exact λW h=>h.2.1
 have bv:Hid (∀W,S2 W->RowB W 3 q.va):=by show ∀W,_;rw[d];exact λW h=>h.2.2.1
 have bu:Hid (∀W,S2 W->RowB W 65 q.ba):=by show ∀W,_;rw[d];exact λW h=>h.2.2.2
 have ak:Hid (S2 cp):=by show S2 cp;rw[d];exact⟨j,okq,qva,qba⟩
 clear d;clear j s bb okq qva qba;have Hq:Hid (q.params=p.params/\q.V=p.V/\q.body=p.body):=⟨cj,ck,cl⟩;clear cj ck cl;rw[show q.val=.agg q.cells from rfl];have bd:∀W:World,(Instr.build 70 #[(0,.agg q.cells),(2,.int .i64 fuel)]).run Tryz.prog W=.ok (.agg #[.int .i64 q.params,.slice q.va q.V.length q.vcap,.slice q.ba q.body.length q.bcap,.slice none 0 0,.int .i64 fuel,.slice none 0 0]) W:=λW=>by kernel_rfl
 have cf:∀W:World,(Instr.build 88 #[(0,.agg #[.int .i64 q.params,.slice q.va q.V.length q.vcap,.slice q.ba q.body.length q.bcap,.slice none 0 0,.int .i64 fuel,.slice none 0 0])]).run Tryz.prog W=.ok (.agg (nwC q (.slice none 0 0) fuel (.slice none 0 0))) W:=λW=>by kernel_rfl
 go_wp2_with (first| (refine KD rfl (.agg #[.int .i64 q.params,.slice q.va q.V.length q.vcap,.slice q.ba q.body.length q.bcap,.slice none 0 0,.int .i64 fuel,.slice none 0 0]) (Zy 70 [_,_] rfl _ (by exact bd _)) ?_)| (refine KD rfl (.agg (nwC q (.slice none 0 0) fuel (.slice none 0 0))) (Zy 88 [_] rfl _ (by exact cf _)) ?_)| (refine Qq _ _ rfl ?_))
 refine Stop.to ?_;refine Qe rfl 88 _ rfl (nwC q (.slice none 0 0) fuel (.slice none 0 0)) rfl ?_;intro g w6 hG rG bG;have bb:=bG.mono hG;have an:=(ai.out _ (D1.out _ (D2.out _ ak.out)));have cb:NwK w aj p q w6:=⟨((bt.out _ ak.out)).go bb,((bv.out _ ak.out)).go bb,((bu.out _ ak.out)).go bb,((ar.out _ (D2.out _ ak.out))).below bb ((ar.out _ (D2.out _ ak.out))).lt,an.trans (bb.mono an.size)⟩;have bi:w.heap.size<=g:=Ld an.size hG;have av:=Lh bi;have cc:NwT w.heap.size g q fuel ((ts.map IntsV.l).take 0) w6:=⟨(.slice none 0 0),[],rG,World.ownsRow_nil _ _ _ _,rfl,λy o=>by simp at o,λy o=>by simp at o⟩;clear hG rG bG bb an bi bd cf ak;go_wp2_with fail
 go_loopw [34] (λi wr=>∃k:Nat,i=.int .i64 (k:Int)/\k<=ts.length/\NwT w.heap.size g q fuel ((ts.map IntsV.l).take k) wr/\NwK w aj p q wr) (λi _=>ts.length-(intOf i).toNat)
 case atStart=>exact⟨0,rfl,Nat.zero_le _,cc,cb⟩
 case round=>
  clear cc cb;obtain⟨k,rfl,hk,⟨tv,ys,hg,ab,aq,bf,be⟩,hK⟩:=hrel;have c4:(ts.length:Int)<=1000:=by have:=Hl.out;omega
  by_cases ch:k<ts.length
  ·skip;obtain⟨t,ht⟩:∃t,ts[k]? =some t:=⟨_,Lb ch⟩;have Ht:=Lh ht;have bh:Hid (t∈ts):=Lf ht;obtain⟨ad,cx,b4⟩:=Jt (Hr.out.go hK.low) ht;subst cx;replace b4:wr.cell? (ad.add k)=some (.slice t.addr t.l.length t.cap):=b4;have c2:(k:Int)<(ts.length:Int):=by omega
   have c3:(0:Int)<=(k:Int):=by omega
   have cm:ys.length=k:=by have h:=congrArg List.length aq;rw[Lu,L1,Lu]at h;omega
   have HK:=Lh hK;have Hg:=Lh hg;have af:=Lh ab;have b1:=Lh aq;have ax:=Lh bf;have aw:=Lh be;have cw:=Lh cm;clear ht hK hg ab aq bf be cm;go_wp2_with fail
   clear b4;obtain⟨V0,b3⟩:∃V,V=wr.drew:=⟨_,rfl⟩;have b0:Below wr.heap.size wr V0:=by rw[b3];exact St.drew (S:=λV=>Below wr.heap.size wr V) (Below.refl _ _)
   obtain⟨S,d⟩:∃S:World->Prop,S=(λV=>Row V g 88 (nwC q tv fuel (.slice none 0 0))):=⟨_,rfl⟩;have S0:Hid (∀V,S V->Row V g 88 (nwC q tv fuel (.slice none 0 0))):=by show ∀V,_;rw[d];exact λV h=>h
   have SI:Hid (∀V,Row V g 88 (nwC q tv fuel (.slice none 0 0))->S V):=by show ∀V,_;rw[d];exact λV h=>h
   have g0:=Hg.out.below b0 Hg.out.lt;have br:=QB af.out b0;have K0:=HK.out.keep (λi t cs r _ _=>r.below b0 r.lt) (HK.out.low.trans (b0.mono HK.out.low.size));have hS:S V0:=SI.out _ g0;have bn:∀y∈ys,y.ok V0:=λy o=>(ax.out y o).go b0
   have bk:∀y∈ys,RowB V0 3 y.addr:=λy o=>(aw.out y o).go b0
   refine J8 (last:=13) (S:=S) (by kernel_rfl) ?_;simp only[Lk,Lc,Lo,Nat.reduceAdd,Li,Lj,Lp,Lm,Ll];rw[<-b3];clear b3 d b0 HK Hg af ax aw;(refine Zf (i:=0) (v:=.pointer (some ⟨g,0,none⟩)) rfl (by kernel_rfl) (by kernel_rfl) (by kernel_rfl) (by kernel_rfl) (λ_ _ _ h=>h) (Qt (Qd rfl (λW hW=>by(go_simp)))) (by assumption) ?_;simp only[Act.put,Qa,Qb,Qc]);(refine Zf (i:=1) (v:=.pointer (some ⟨g,0,none⟩)) rfl (by kernel_rfl) (by kernel_rfl) (by kernel_rfl) (by kernel_rfl) (λ_ _ _ h=>h) (Qt (Qd rfl (λW hW=>by(go_simp)))) (by assumption) ?_;simp only[Act.put,Qa,Qb,Qc]);(refine Zf (i:=2) (v:=.pointer (some ⟨g,0,none⟩)) rfl (by kernel_rfl) (by kernel_rfl) (by kernel_rfl) (by kernel_rfl) (λ_ _ _ h=>h) (Qt (Qd rfl (λW hW=>by(go_simp)))) (by assumption) ?_;simp only[Act.put,Qa,Qb,Qc]);(refine Zf (i:=3) (v:=.pointer (some ⟨g,0,none⟩)) rfl (by kernel_rfl) (by kernel_rfl) (by kernel_rfl) (by kernel_rfl) (λ_ _ _ h=>h) (Qt (Qd rfl (λW hW=>by(go_simp)))) (by assumption) ?_;simp only[Act.put,Qa,Qb,Qc]);(refine Zf (i:=4) (v:=.pointer (some ⟨g,3,none⟩)) rfl (by kernel_rfl) (by kernel_rfl) (by kernel_rfl) (by kernel_rfl) (λ_ _ _ h=>h) (Qt (Qd rfl (λW hW=>by(go_simp)))) (by assumption) ?_;simp only[Act.put,Qa,Qb,Qc]);(refine Zf (i:=5) (v:=tv) rfl (by kernel_rfl) (by kernel_rfl) (by kernel_rfl) (by kernel_rfl) (λ_ _ _ h=>h) (Qt (Qd rfl (λW hW=>by((have c:=(S0.out W hW).cellv (i:=3) (v:=tv) rfl;go_simp))))) (by assumption) ?_;simp only[Act.put,Qa,Qb,Qc]);(refine Zf (i:=6) (v:=.slice t.addr t.l.length t.cap) rfl (by kernel_rfl) (by kernel_rfl) (by kernel_rfl) (by kernel_rfl) (λ_ _ _ h=>h) (Qt (Qd rfl (λW hW=>by(go_simp)))) (by assumption) ?_;simp only[Act.put,Qa,Qb,Qc]);(refine Qy (rs:=[7]) (by kernel_rfl) (by simp) (λi hi=>?_);obtain rfl:i=7:=by simpa using hi);refine Qf rfl rfl (λK2 n=>?_);have ap:=(cv.out t bh.out).go K0.low;obtain⟨A1,k1,V1,ag,bw,h1,h2,h3,h4,bd,cg⟩:=Ek V0 t.addr t.cap t.l ap.reads (λe=>Lt (by have:=ap.nil e;have:=ap.len;have:=ap.cap;omega)) (by have:=b9.out t bh.out;omega);refine Qn (.slice A1 t.l.length k1) (w1:=V1) (QE rfl ag) ?_;refine n _ _ ?_;clear n K2;simp only[Act.put,Qa,Qb,Qc];have g1:=g0.below bw g0.lt;have own1:=QB br bw;have K1:=K0.keep (λi t cs r _ _=>r.below bw r.lt) (K0.low.trans (bw.mono K0.low.size));have bo:∀y∈ys,y.ok V1:=λy o=>(bn y o).go bw
   have bl:∀y∈ys,RowB V1 3 y.addr:=λy o=>(bk y o).go bw
   have cd:S V1:=SI.out _ g1;refine⟨λ_=>cd,?_⟩;clear hS g0 br K0 bn bk bw ag;(refine Qy (rs:=[8]) (by kernel_rfl) (by simp) (λi hi=>?_);obtain rfl:i=8:=by simpa using hi);refine Qf rfl rfl (λK2 n=>?_);refine Qn (.slice (some ⟨V1.heap.size,0,none⟩) 1 1) (Q0 [(0,.tmp 45)] rfl (Z8 (cells:=#[.slice A1 t.l.length k1]) Tryz.underlying26 Adp (by decide) (by decide) (by kernel_rfl) V1)) ?_;refine n _ _ ?_;clear n K2;simp only[Act.put,Qa,Qb,Qc];obtain⟨M2,b2⟩:∃M2,M2=V1.heap.size:=⟨_,rfl⟩;obtain⟨V2,bc⟩:∃V,V=V1.alloc (.cells #[.slice A1 t.l.length k1] 22):=⟨_,rfl⟩;have Mr:Row V2 M2 22 #[.slice A1 t.l.length k1]:=by rw[bc,b2];exact Row.new _ _ _
   have bw:Below V1.heap.size V1 V2:=by rw[bc];exact(Below.refl _ _).alloc (Nat.le_refl _) _
   rw[<-b2, <-bc];clear b2 bc;have g2:=g1.below bw g1.lt;have ao:=QB own1 bw;have ay:=K1.keep (λi t cs r _ _=>r.below bw r.lt) (K1.low.trans (bw.mono K1.low.size));have bp:∀y∈ys,y.ok V2:=λy o=>(bo y o).go bw
   have bm:∀y∈ys,RowB V2 3 y.addr:=λy o=>(bl y o).go bw
   have ci:(IntsV.mk A1 k1 t.l).ok V2:=⟨h2,h3,h4,h1.go bw,ap.all⟩;have bj:=cg.go bw;have ce:S V2:=SI.out _ g2;refine⟨λ_=>ce,?_⟩;clear cd g1 own1 K1 bo bl bw h1 h2 h3 h4 bd cg ap;obtain⟨v3,V3,ag,a0,b5, -⟩:=ZA (P:=Tryz.prog) 26 22 (.slice none 0 0) 1 24 Tryz.underlying26 Ado rfl (by decide) (by decide) ao ay.low.size (Jz (cs:=[.slice A1 t.l.length k1]) Mr) (m:=1) (cap:=1) rfl (by intro u hu;rw[Lv.1 hu];rfl) (λh=>by cases h) (by have:=cw.out;omega);(refine Qy (rs:=[9]) (by kernel_rfl) (by simp) (λi hi=>?_);obtain rfl:i=9:=by simpa using hi);refine Qf rfl rfl (λK2 n=>?_);refine Qn v3 (w1:=V3) (QE rfl ag) ?_;refine n _ _ ?_;clear n K2;simp only[Act.put,Qa,Qb,Qc];have kr:∀(i:Nat) (t:TypeId) cs,Row V2 i t cs->t≠22->Row V3 i t cs:=λi t cs r h=>r.grown b5 (Qz ao r (λe=>h e.symm));have g3:=kr _ _ _ g2 (by decide);have bg:=QL ay.low ao b5 ay.low.size (Nat.le_refl _);have K3:=ay.keep (λi t cs r _ h=>kr i t cs r h) bg;have am:V3.ownsRow w.heap.size 22 1 v3 (ys++[IntsV.mk A1 k1 t.l]).length (Jo (ys++[IntsV.mk A1 k1 t.l])):=by rw[Le];unfold Jo;rw[LN];exact a0
   have ah:∀y∈ys++[IntsV.mk A1 k1 t.l],y.ok V3/\RowB V3 3 y.addr:=λy o=>by
    have al:y.ok V2/\RowB V2 3 y.addr:=by
     rcases L2.1 o with h|h
     ·exact⟨bp y h,bm y h⟩
     ·rw[Lv.1 h];exact⟨ci,bj⟩
    exact⟨⟨al.1.len,al.1.cap,al.1.nil,Q3 al.1.reads al.2 (λi cs r=>kr i _ cs r (by decide)),al.1.all⟩,QP al.2 (λi cs r=>kr i _ cs r (by decide))⟩
   have az:S V3:=SI.out _ g3;refine⟨λ_=>az,?_⟩;obtain⟨mA,mm,mc,rfl⟩:=ZC a0;clear ce g2 ao ay bp bm ci bj Mr ag b5 kr bg a0;(refine Qy (rs:=[10]) (by kernel_rfl) (by simp) (λi hi=>?_);obtain rfl:i=10:=by simpa using hi);refine Qf rfl rfl (λK2 n=>?_);refine Qn (.pointer (some ⟨g,0,none⟩)) (w1:=V3) (by go_simp) ?_;refine n _ _ ?_;clear n K2;simp only[Act.put,Qa,Qb,Qc];refine⟨λ_=>az,?_⟩;(refine Qy (rs:=[11]) (by kernel_rfl) (by simp) (λi hi=>?_);obtain rfl:i=11:=by simpa using hi);refine Qf rfl rfl (λK2 n=>?_);refine Qn (.pointer (some ⟨g,0,none⟩)) (w1:=V3) (by go_simp) ?_;refine n _ _ ?_;clear n K2;simp only[Act.put,Qa,Qb,Qc];refine⟨λ_=>az,?_⟩;(refine Qy (rs:=[12]) (by kernel_rfl) (by simp) (λi hi=>?_);obtain rfl:i=12:=by simpa using hi);refine Qf rfl rfl (λK2 n=>?_);refine Qn (.pointer (some ⟨g,3,none⟩)) (w1:=V3) (by go_simp) ?_;refine n _ _ ?_;clear n K2;simp only[Act.put,Qa,Qb,Qc];refine⟨λ_=>az,?_⟩;(refine Qy (rs:=[13]) (by kernel_rfl) (by simp) (λi hi=>?_);obtain rfl:i=13:=by simpa using hi);refine Qf rfl rfl (λK2 n=>?_);refine ZX 26 (.tmp 50) (.tmp 47) rfl g 3 rfl _ rfl [.slice mA mm mc] rfl 88 _ (nwC q (.slice mA mm mc) fuel (.slice none 0 0)) g3 (by kernel_rfl) (by show 3+1<=12;omega) (by simp[Value.oneCell']) rfl ?_;intro V4 r4 o4;refine n _ _ ?_;clear n K2;simp only[Act.put,Qa,Qb,Qc];have kr:∀(i:Nat) (t:TypeId) cs,Row V3 i t cs->t≠88->Row V4 i t cs:=λi t cs r h=>r.only o4 (ZW r g3 h);have bs:=Qx am o4 (Qz am g3 (by decide));have K4:=K3.keep (λi t cs r h _=>kr i t cs r h) (Qp K3.low o4 av.out);have bq:(ys++[IntsV.mk A1 k1 t.l]).map IntsV.l=(ts.map IntsV.l).take (k+1):=by rw[LN,b1.out,L9,L4,Ht.out];rfl
   have HT:Hid (NwT w.heap.size g q fuel ((ts.map IntsV.l).take (k+1)) V4):=⟨⟨_,_,r4,bs,bq,λy o=>⟨(ah y o).1.len,(ah y o).1.cap,(ah y o).1.nil,Q3 (ah y o).1.reads (ah y o).2 (λi cs r=>kr i _ cs r (by decide)),(ah y o).1.all⟩,λy o=>QP (ah y o).2 (λi cs r=>kr i _ cs r (by decide))⟩⟩;have cq:=Lh K4;refine⟨λh=>absurd rfl h,?_⟩;refine Ka (by kernel_rfl) ?_ _;clear kr bs K4 bq r4 o4 ah g3 K3 am az S0 SI S;go_wp2_with fail
   go_roundw
   case rel=>exact⟨k+1,by go_num,by omega,HT.out,cq.out⟩
   case measure=>simp[intOf];omega
  ·obtain rfl:k=ts.length:=by omega
   have ca:(ts.map IntsV.l).take ts.length=ts.map IntsV.l:=L7 (by simp);rw[ca]at aq;obtain⟨tA,tm,tc,rfl⟩:=ZC ab;obtain rfl:tm=ys.length:=E6 ab;clear ch hk ca;have HK:=Lh hK;have Hg:=Lh hg;have af:=Lh ab;have b1:=Lh aq;have ax:=Lh bf;have aw:=Lh be;clear hK hg ab aq bf be;go_wp2_with (refine wpList_load_row rfl 25 _ rfl aj rfl 25 p.cells (0,0) _ HK.out.row Tryz.underlying25 rfl (by kernel_rfl) ?_)
   refine(Ub p (by have:=bz.out;omega) wr (cu.out.go HK.out.low)).mono ?_;rintro e w8 ⟨xA,a9,xs,rfl,a1,a2,a3,a4,a5,a6,a7,bb,aT⟩;rw[Hz.out];have g8:=Hg.out.below bb Hg.out.lt;have ae:=QB af.out bb;have K8:=HK.out.keep (λi t cs r _ _=>r.below bb r.lt) (HK.out.low.trans (bb.mono HK.out.low.size));have aa:∀y∈ys,y.ok w8:=λy o=>(ax.out y o).go bb
   have ac:∀y∈ys,RowB w8 3 y.addr:=λy o=>(aw.out y o).go bb
   have H8:=Lh (And.intro ae (And.intro K8 (And.intro aa (And.intro ac (And.intro a1 (And.intro a4 aT))))));have cr:=Lh a5;have ct:=Lh a7;clear ae K8 aa ac a1 a2 a3 a4 a5 a6 a7 aT bb HK Hg af ax aw;go_wp2_with (refine Qs _ _ _ rfl ?_)
   refine Stop.to ?_;refine Qm rfl 44 _ _ rfl g 5 rfl _ rfl [.slice xA xs.length a9] rfl 88 _ (nwC q (.slice tA ys.length tc) fuel (.slice xA xs.length a9)) g8 (by kernel_rfl) (by show 5+1<=12;omega) (by simp[Value.oneCell']) rfl ?_;intro w9 r9 o9;obtain⟨ae,K8,aa,ac,a1,a4,aT⟩:=H8.out;have kr:∀(i:Nat) (t:TypeId) cs,Row w8 i t cs->t≠88->Row w9 i t cs:=λi t cs r h=>r.only o9 (ZW r g8 h);have a8:=Qx ae o9 (Qz ae g8 (by decide));have K9:=K8.keep (λi t cs r h _=>kr i t cs r h) (Qp K8.low o9 av.out);have hD:∀x∈xs,DlT w9 x:=λx hx=>⟨⟨Q3 (a4 x hx).ok.1 (a4 x hx).ib (λi cs r=>kr i _ cs r (by decide)),(a4 x hx).ok.2⟩,QP (a4 x hx).ib (λi cs r=>kr i _ cs r (by decide)),(a4 x hx).nil⟩
   have hF:RnIn w.heap.size (RnV.mk g q tA tc ys fuel xA a9 xs 0 false (.slice none 0 0) (.slice none 0 0) []) w9:=⟨r9,av.out,⟨K9.okq,K9.qva,K9.qba,XC a8,Xl a8,λy o=>⟨(aa y o).len,(aa y o).cap,(aa y o).nil,Q3 (aa y o).reads (ac y o) (λi cs r=>kr i _ cs r (by decide)),(aa y o).all⟩,λy o=>QP (ac y o) (λi cs r=>kr i _ cs r (by decide)),Q3 a1 aT (λi cs r=>kr i _ cs r (by decide)),QP aT (λi cs r=>kr i _ cs r (by decide)),hD,rfl,λy o=>by cases o⟩,World.ownsRow_nil _ _ _ _⟩;have HF:Hid (NewR p (ts.map IntsV.l) fuel w w9 (.returned (.tuple #[.pointer (some ⟨g,0,none⟩),.int .i64 0]))):=⟨λh=>absurd Hb.out h,λ_=>⟨_,rfl,hF,Hq.out,b1.out,rfl,cr.out,ct.out,rfl,rfl,rfl⟩,K9.low⟩;clear kr ae K8 aa ac a1 a4 aT a8 K9 hD hF r9 o9 g8 H8;go_wp2_with fail
   refine bodyPost_ret (results_tmp2 Tryz.results8 _ _ _) rfl ?_;exact HF.out
end Go.Proofs.YtkoikjnlpifbjaaGreat
