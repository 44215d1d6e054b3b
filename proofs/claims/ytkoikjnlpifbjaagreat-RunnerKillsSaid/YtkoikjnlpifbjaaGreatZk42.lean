/- Lemmas for RunnerKillsP. -/
import Derived.Test.YtkoikjnlpifbjaaGreatZk41
import Derived.Test.YtkoikjnlpifbjaaGreatZk1
import Derived.Recover
import Derived.Defers
set_option linter.unusedVariables false
set_option linter.unusedSimpArgs false
set_option maxRecDepth 100000
set_option maxHeartbeats 16000000
namespace Go.Proofs.YtkoikjnlpifbjaaGreat
open Go.RowKit Go.Deep
theorem AkY (L:Lay)(hL:DOk L)(t:Tr)(s:Ms)(v:Int)(h0:s.fuel=0):EntD L t s v (s.stop 4 0):=by
 intro q g l j h;have k:=Lh hL;have d:=h.sum;have o:L.F<=s.steps:=by omega
 have m:=h.row.cellv (i:=2) (v:=.int .i64 (L.F:Int)) rfl;have n:=h.row.cellv (i:=5) (v:=.int .i64 (s.steps:Int)) rfl;have c:=Lh h;clear h j hL d h0;go_enter Tryz.func135,Tryz.ntmps135
 go_wp2_with fail
 go_quiet (fail)
 go_wp2_with fail
 refine(YV _ _ _).mono ?_;rintro e p ⟨rfl,rfl⟩;simp only[Zc];clear m n;go_wp2
 exact⟨rfl,rfl,g,(c.out.drew k.out _).stop _ _,.below ⟨rfl,rfl,rfl,Nat.le_refl _,λ_ _=>rfl⟩⟩
inductive AtC (L:Lay)(n:Int)(t1:Ms)(v:Int):Int->Ms->Prop
 |cut {u:Int} (ho:t1.out.isSome=true):AtC L n t1 v u t1
 |no {ty:Int} (ho:t1.out=none) (hn:0<=n) (hV:L.p.V[n.toNat]? =some ty) (hz:QC ty≠0) (hs:LenS L.p.V t1) (hb:v<0\/((t1.arr n).length:Int)<=v):AtC L n t1 v 0 (t1.stop 2 0)
 |yes {ty u:Int} (ho:t1.out=none) (hn:0<=n) (hV:L.p.V[n.toNat]? =some ty) (hz:QC ty≠0) (hs:LenS L.p.V t1) (hb:¬(v<0\/((t1.arr n).length:Int)<=v)) (hu:((t1.arr n)[v.toNat]?).getD 0=u):AtC L n t1 v u t1
inductive PrC (tag:Int):List Int->Ms->Int->Ms->Prop
 |cut {vs:List Int} {s2:Ms} {u:Int} (ho:s2.out.isSome=true):PrC tag vs s2 u s2
 |two {v u r:Int} {s2 s3:Ms} (ho:s2.out=none) (hp:(Zn tag v u=some r/\s3=s2)\/(Zn tag v u=none/\r=0/\s3=s2.stop 1 0)):PrC tag [v,u] s2 r s3
inductive EC (L:Lay)(x:Nd)(s:Ms):List Tr->Int->Ms->Prop
 |lit {v:Int} (ht:x.tag=1\/x.tag=2) (hv:x.n=v):EC L x s [] v s.tick
 |var {ty v:Int} (ht:x.tag=3) (hn:0<=x.n) (hV:L.p.V[x.n.toNat]? =some ty) (hz:QC ty=0) (hlen:s.vals.length=L.p.V.length) (hv:(s.vals[x.n.toNat]?).getD 0=v):EC L x s [] v s.tick
 |at_ {a:Tr} {ks:List Tr} {t1 s3:Ms} {v u:Int} (ht:x.tag=4) (h1:EntD L a s.tick v t1) (hr:AtC L x.n t1 v u s3):EC L x s (a::ks) u s3
 |cut {a:Tr} {ks:List Tr} {t1:Ms} {v u:Int} (ht:x.tag=5\/x.tag=6\/x.tag=18\/x.tag=19) (h1:EntD L a s.tick v t1) (ho:t1.out.isSome=true):EC L x s (a::ks) u t1
 |neg {a:Tr} {t1:Ms} {v u:Int} (ht:x.tag=5) (h1:EntD L a s.tick v t1) (ho:t1.out=none) (hu:wrap64 (-v)=u):EC L x s [a] u t1
 |not {a:Tr} {t1:Ms} {v u:Int} (ht:x.tag=6) (h1:EntD L a s.tick v t1) (ho:t1.out=none) (hv:v=0\/v=1) (hu:1-v=u):EC L x s [a] u t1
 |log0 {a b:Tr} {t1:Ms} {v:Int} (ht:(x.tag=18/\v=0)\/(x.tag=19/\v=1)) (h1:EntD L a s.tick v t1) (ho:t1.out=none):EC L x s [a,b] v t1
 |log1 {a b:Tr} {t1 s2:Ms} {v u:Int} (ht:(x.tag=18/\v≠0)\/(x.tag=19/\v≠1)) (h1:EntD L a s.tick v t1) (ho:t1.out=none) (h2:EntD L b t1 u s2):EC L x s [a,b] u s2
 |stmt {ks:List Tr} {s3:Ms} (ht:20<=x.tag/\x.tag<=26) (hdo:DoD L x ks s.tick s3):EC L x s ks 0 s3
 |pair {a b:Tr} {s2 s3:Ms} {vs:List Int} {u:Int} (ht:7<=x.tag/\x.tag<=17) (hch:Ko L [a,b] s.tick vs s2) (hr:PrC x.tag vs s2 u s3):EC L x s [a,b] u s3
theorem QO (L:Lay)(hL:DOk L)(x:Nd)(ks:List Tr)(s s9:Ms)(v9:Int)(hg:s.go)(hec:EC L x s ks v9 s9):EntD L (.node x ks) s v9 s9:=by
 obtain⟨d,nn⟩:=x;have ae:=Lh hec;clear hec;intro q y aq ax h;have HL:=Lh hL;have ag:=Lh ax;have hF:=hL.F;have bn:=h.sum;have bq:=hL.blen;have bs:q<L.p.body.length:=ax.lt;have hd:¬L.F<=s.steps:=by have:=hg.2;omega
 have bp:IntKind.i64.wrap ((s.steps:Int)+1)=(s.steps:Int)+1:=IntWalk.i64_in _ (by omega);have a7:IntKind.i64.wrap ((q:Int)+1)=(q:Int)+1:=IntWalk.i64_in _ (by omega);have bg:Hid ((q:Int)<(L.p.body.length:Int)):=by show(q:Int)<_;omega
 have ah:Hid (s.tick.steps+s.tick.fuel=L.F):=by show _=_;have:=hg.2;simp only[Ms.tick];omega
 have ap:Hid (L.p.body[q]? =some ⟨d,nn⟩):=ax.root;have c2:=h.row.cellv (i:=2) (v:=.int .i64 (L.F:Int)) rfl;have c5:=h.row.cellv (i:=5) (v:=.int .i64 (s.steps:Int)) rfl;have az:=Lh h;have Hg:=Lh hg;clear h ax hL hF bn bq bs hg;go_enter Tryz.func135,Tryz.ntmps135
 go_wp2_with fail
 go_quiet (fail)
 obtain⟨W0,aw⟩:∃W0,W0=aq.drewN nq:=⟨_,rfl⟩;rw[<-aw];have a8:DR L s y W0:=by rw[aw];exact az.out.drew HL.out _
 have ak:RChg L y aq y W0:=by rw[aw];exact .below ⟨rfl,rfl,rfl,Nat.le_refl _,λ_ _=>rfl⟩
 have a4:=Lh a8;have bc:=Lh ak;replace c5:=a8.row.cellv (i:=5) (v:=.int .i64 (s.steps:Int)) rfl;clear a8 ak aw c2 az hd;go_wp2_with (refine Qs _ _ _ rfl ?_)
 refine Stop.to ?_;refine Qm rfl 3 _ _ rfl L.M 5 rfl _ rfl [.int .i64 ((s.steps:Int)+1)] rfl 156 _ (L.dcells s.tick y) a4.out.row (by kernel_rfl) (by show 5+1<=7;omega) (by simp[Value.oneCell']) rfl ?_;intro W2 r2 o2;have m2:DR L s.tick y W2:=a4.out.setM HL.out o2 r2 rfl rfl rfl ah.out (by simp[Ms.tick]);have t:=Lh m2;have w:Hid (RChg L y aq y W2):=bc.out.trans (RChg.only o2 (.inl rfl));have c0:=m2.row.cellv (i:=0) (v:=.slice L.p.ba L.p.body.length L.p.bcap) rfl;have a1:=HL.out.pok W2 m2.im;obtain⟨ad,an,hc⟩:=J6 a1.brd ap.out;have Hc:=Lh hc;have br:=bg.out;rw[an]at c0;clear m2 a1 r2 o2 c5 bp hc an a4 bc
 go_wp2_with (first
  | (refine QT rfl 65 _ rfl (ad.add (q*2)) rfl (Nd.cells ⟨d,nn⟩) _ Hc.out Tryz.underlying65 rfl (by kernel_rfl) ?_)
  | (refine QH _ rfl ?_))
 refine Stop.to ?_;refine Qj rfl 65 rfl _ _ Vx rfl ?_;intro X W3 hX rX b3;go_wp2_with (refine Qs _ _ _ rfl ?_)
 refine Stop.to ?_;refine Qk rfl 65 _ _ rfl X (Nd.cells ⟨d,nn⟩).toArray rfl rfl 65 _ rX (by kernel_rfl) rfl (by simp[Nd.cells,Value.oneCell']) ?_;intro W r4 o4;have a6:Below W2.heap.size W2 W:=(b3.mono hX).trans (o4.below hX);have m4:=t.out.below HL.out a6;have bi:RChg L y aq y W:=w.out.trans (.below a6);have HX:Hid (FRow L y W X 65 #[.int .i64 d,.int .i64 nn]):=⟨t.out.far_new hX r4.lt,r4⟩;have x0:=r4.cellv (i:=0) (v:=.int .i64 d) rfl;have x1:=r4.cellv (i:=1) (v:=.int .i64 nn) rfl;have Hm:=Lh m4;have HC:=Lh bi;clear b3 a6 o4 rX c0 hX Hc r4 m4 bi w t br bg ap ah;cases ae.out with
 |@lit v ht hv=>
  clear ae;obtain rfl:nn=v9:=hv;rcases (show d=1\/d=2 from ht)with rfl|rfl
  all_goals
   go_wp2
   go_ret
   exact⟨(QU (s:=s.tick) Hg.out.1).symm,y,Hm.out,HC.out⟩
 |@var ty v ht hn hV hz hlen hv=>
  clear ae;obtain rfl:d=3:=ht;dsimp only at hn hV hv;obtain⟨n,ab⟩:∃n:Nat,nn=(n:Int):=⟨nn.toNat,by omega⟩;rw[ab,Ln]at hV hv;obtain⟨u,hu⟩:∃u,s.vals[n]? =some u:=⟨_,Lb (by rw[hlen];exact(La.1 hV).1)⟩;rw[hu,LL]at hv;subst hv;have aa:=AkU L HL.out s.tick y n ty 0 u W Hm.out hV hz hu;rw[<-ab]at aa;have g:=Lh aa;clear aa hV hz hu ab hlen hn;go_wp2_with fail
  refine g.out.mono ?_;rintro e Wa ⟨rfl,ba⟩;have t:=Lh (Hm.out.below HL.out ba);have ac:RChg L y W y Wa:=RChg.below ba;have w:=Lh (HC.out.trans ac);clear ba ac g x0 x1 HX Hm HC;go_wp2
  go_ret
  exact⟨(QU (s:=s.tick) Hg.out.1).symm,y,t.out,w.out⟩
 |@at_ a ks t1 s3 v u ht h1 hr=>
  clear ae;obtain rfl:d=4:=ht;dsimp only at hr;have Hr:=Lh hr;clear hr;have aa:=EntD.at1 h1 ag.out.kids.head (Hm.out.drew1 HL.out);go_wp2_with fail
  refine wp_region_held (S:=λW=>Row W X 65 #[.int .i64 4,.int .i64 nn]) (by kernel_rfl) ?_;simp only[Lk,Lc,Lo,Nat.reduceAdd,Li,Lj,Lp,Lm,Ll];show wpAnyH _ _ _ _ _ _ _ _ W.drew;have hS:Row W.drew X 65 #[.int .i64 4,.int .i64 nn]:=HX.out.2;(refine tkH 0 (.pointer (some ⟨L.M,0,none⟩)) rfl (Qd rfl (λW hW=>by(go_simp))) ?_;simp only[Act.put,Qa,Qb,Qc]);(refine tkH 1 (.pointer (some ⟨X,1,none⟩)) rfl (Qd rfl (λW hW=>by(go_simp))) ?_;simp only[Act.put,Qa,Qb,Qc]);(refine tkH 2 (.int .i64 nn) rfl (Qd rfl (λW hW=>by((have h:=hW.cellv (i:=1) (v:=.int .i64 nn) rfl;go_simp)))) ?_;simp only[Act.put,Qa,Qb,Qc]);(refine tkH 3 (.pointer (some ⟨L.M,0,none⟩)) rfl (Qd rfl (λW hW=>by(go_simp))) ?_;simp only[Act.put,Qa,Qb,Qc]);(refine tkH 4 (.int .i64 (q:Int)) rfl (Qd rfl (λW hW=>by(go_simp))) ?_;simp only[Act.put,Qa,Qb,Qc]);(refine tkH 5 (.int .i64 ((q:Int)+1)) rfl (Qd rfl (λW hW=>by(go_simp;try exact a7))) ?_;simp only[Act.put,Qa,Qb,Qc])
  (refine wpAnyH_all (rs:=[6]) (by kernel_rfl) (by simp) (λi hi=>?_);obtain rfl:i=6:=by simpa using hi);refine Qf rfl rfl (λK2 ai=>?_);refine Kc 135 #[.pointer (some ⟨L.M,0,none⟩),.int .i64 ((q:Int)+1)] (w1:=W.drew) (by go_simp) ?_;refine aa.mono ?_;rintro e Wa ⟨rfl,l,m,j⟩;clear aa;have af:RChg L y W y W.drew:=RChg.below ⟨rfl,rfl,rfl,Nat.le_refl _,λ_ _=>rfl⟩;cases Hr.out with
  |cut ho=>
   clear Hr;obtain⟨⟨ok,ox⟩,z⟩:=LI.1 ho;rw[Zu z];simp only[Zc];have w:=Lh (HC.out.trans (af.trans j));have t:=Lh m;have aj:=Lh z;clear z ho m j af;go_wp2
   exact⟨rfl,(Zu aj.out).symm,l,t.out,w.out⟩
  |@no ty ho hn hV hz hs hb=>
   clear Hr;obtain⟨n,ab⟩:∃n:Nat,nn=(n:Int):=⟨nn.toNat,by omega⟩;rw[ab]at hb;rw[ab,Ln]at hV;have al:=AjE L HL.out t1 l n ty v Wa m hV hz hs hb;rw[<-ab]at al;have Ho:=Lh ho;clear ab hV hz hs hb ho hn;rw[QU Ho.out];have am:=HX.out.go HL.out (af.trans j);have w:=Lh (HC.out.trans (af.trans j));have t:=Lh m;refine ai _ _ ?_;simp only[Act.put,Qa,Qb,Qc];refine⟨am.2,?_⟩;clear m j af hS ai K2;(refine wpAnyH_all (rs:=[7]) (by kernel_rfl) (by simp) (λi hi=>?_);obtain rfl:i=7:=by simpa using hi);refine Qf rfl rfl (λK2 ai=>?_);refine Kc 167 #[.pointer (some ⟨L.M,0,none⟩),.int .i64 nn,.int .i64 v] (w1:=Wa) (by go_simp) ?_;refine al.mono ?_;rintro e Wb ⟨rfl,bb⟩;have a5:=Lh (t.out.below HL.out bb);have ac:RChg L l Wa l Wb:=RChg.below bb;have a3:=Lh (w.out.trans ac);clear bb ac al am;simp only[Zc];go_wp2
   exact⟨rfl,rfl,l,a5.out.stop _ _,a3.out⟩
  |@yes ty u ho hn hV hz hs hb hu=>
   clear Hr;obtain⟨n,ab⟩:∃n:Nat,nn=(n:Int):=⟨nn.toNat,by omega⟩;rw[ab]at hb hu;rw[ab,Ln]at hV;obtain⟨c,hc⟩:∃c,(s9.arr (n:Int))[v.toNat]? =some c:=⟨_,Lb (by omega)⟩;rw[hc,LL]at hu;subst hu;have al:=AkT L HL.out s9 l n ty v c Wa m hV hz hs hb hc;rw[<-ab]at al;have Ho:=Lh ho;clear ab hV hz hs hb ho hn hc;rw[QU Ho.out];have am:=HX.out.go HL.out (af.trans j);have w:=Lh (HC.out.trans (af.trans j));have t:=Lh m;refine ai _ _ ?_;simp only[Act.put,Qa,Qb,Qc];refine⟨am.2,?_⟩;clear m j af hS ai K2;(refine wpAnyH_all (rs:=[7]) (by kernel_rfl) (by simp) (λi hi=>?_);obtain rfl:i=7:=by simpa using hi);refine Qf rfl rfl (λK2 ai=>?_);refine Kc 167 #[.pointer (some ⟨L.M,0,none⟩),.int .i64 nn,.int .i64 v] (w1:=Wa) (by go_simp) ?_;refine al.mono ?_;rintro e Wb ⟨rfl,bb⟩;have a5:=Lh (t.out.below HL.out bb);have ac:RChg L l Wa l Wb:=RChg.below bb;have a3:=Lh (w.out.trans ac);have hS:Row Wb X 65 #[.int .i64 4,.int .i64 nn]:=(am.go HL.out ac).2;refine ai _ _ ?_;simp only[Act.put,Qa,Qb,Qc];refine⟨hS,?_⟩;clear bb ac al am ai K2;(refine tkH 8 (.int .i64 c) rfl (Qd rfl (λW hW=>by(go_simp))) ?_;simp only[Act.put,Qa,Qb,Qc]);refine wpAnyH_done (by kernel_rfl) ?_ _;clear hS;go_wp2
   go_ret
   exact⟨(QU Ho.out).symm,l,a5.out,a3.out⟩
 |@cut a ks t1 v u ht h1 ho=>
  clear ae;rcases (show d=5\/d=6\/d=18\/d=19 from ht)with rfl|rfl|rfl|rfl
  all_goals
   have g:=Lh (EntD.at1 h1 ag.out.kids.head Hm.out)
   go_wp2_with fail
   refine g.out.mono ?_
   rintro e Wa ⟨rfl,l,m,j⟩
   replace HX:=Lh (HX.out.go HL.out j)
   replace HC:=Lh (HC.out.trans j)
   clear g x0 x1 Hm h1
   have Hm:=Lh m
   have x0:=HX.out.2.cellv (i:=0) (v:=.int .i64 _) rfl
   have x1:=HX.out.2.cellv (i:=1) (v:=.int .i64 nn) rfl
   clear m j
   obtain⟨⟨ok,ox⟩,z⟩:=LI.1 ho
   rw[Zu z]
   simp only[Zc]
   have aj:=Lh z
   clear z ho
   go_wp2
   exact⟨rfl,(Zu aj.out).symm,l,Hm.out,HC.out⟩
 |@neg a t1 v u ht h1 ho hu=>
  clear ae;obtain rfl:d=5:=ht;subst hu;have g:=Lh (EntD.at1 h1 ag.out.kids.head Hm.out);go_wp2_with fail
  refine g.out.mono ?_;rintro e Wa ⟨rfl,l,m,j⟩;replace HX:=Lh (HX.out.go HL.out j);replace HC:=Lh (HC.out.trans j);clear g x0 x1 Hm h1;have Hm:=Lh m;have x0:=HX.out.2.cellv (i:=0) (v:=.int .i64 _) rfl;have x1:=HX.out.2.cellv (i:=1) (v:=.int .i64 nn) rfl;clear m j;rw[QU ho];have Ho:=Lh ho;clear ho;go_wp2
  go_ret
  rw[QU Ho.out];exact⟨QS rfl,l,Hm.out,HC.out⟩
 |@not a t1 v u ht h1 ho hv hu=>
  clear ae;obtain rfl:d=6:=ht;subst hu;have g:=Lh (EntD.at1 h1 ag.out.kids.head Hm.out);go_wp2_with fail
  refine g.out.mono ?_;rintro e Wa ⟨rfl,l,m,j⟩;replace HX:=Lh (HX.out.go HL.out j);replace HC:=Lh (HC.out.trans j);clear g x0 x1 Hm h1;have Hm:=Lh m;have x0:=HX.out.2.cellv (i:=0) (v:=.int .i64 _) rfl;have x1:=HX.out.2.cellv (i:=1) (v:=.int .i64 nn) rfl;clear m j;rw[QU ho];have Ho:=Lh ho;have ew:IntKind.i64.wrap (1-v)=1-v:=IntWalk.i64_in _ (by omega);clear ho hv;go_wp2
  go_ret
  rw[QU Ho.out];exact⟨rfl,l,Hm.out,HC.out⟩
 |@log0 a b t1 v ht h1 ho=>
  clear ae;rcases (show(d=18/\v9=0)\/(d=19/\v9=1)from ht)with⟨rfl,rfl⟩|⟨rfl,rfl⟩
  all_goals
   have g:=Lh (EntD.at1 h1 ag.out.kids.head Hm.out)
   go_wp2_with fail
   refine g.out.mono ?_
   rintro e Wa ⟨rfl,l,m,j⟩
   replace HX:=Lh (HX.out.go HL.out j)
   replace HC:=Lh (HC.out.trans j)
   clear g x0 x1 Hm h1
   have Hm:=Lh m
   have x0:=HX.out.2.cellv (i:=0) (v:=.int .i64 _) rfl
   have x1:=HX.out.2.cellv (i:=1) (v:=.int .i64 nn) rfl
   clear m j
   rw[QU ho]
   have Ho:=Lh ho
   clear ho
   go_wp2_with fail
   refine(Yw _ _).mono ?_
   rintro e w' ⟨rfl,rfl⟩
   go_wp2
   go_ret
   rw[QU Ho.out]
   exact⟨rfl,l,Hm.out,HC.out⟩
 |@log1 a b t1 s2 v u ht h1 ho h2=>
  clear ae;have ao:(d=18/\(v==tr false)=false)\/(d=19/\(v==tr true)=false):=(show(d=18/\v≠0)\/(d=19/\v≠1)from ht).imp (λh=>⟨h.1,by show(v==0)=false;simpa using h.2⟩) (λh=>⟨h.1,by show(v==1)=false;simpa using h.2⟩);clear ht;rcases ao with⟨rfl,ev⟩|⟨rfl,ev⟩
  all_goals
   obtain⟨qn,bm,a0⟩:=V7 ag.out (i:=1) (k:=b) rfl
   have g:=Lh (EntD.at1 h1 ag.out.kids.head Hm.out)
   go_wp2_with fail
   refine g.out.mono ?_
   rintro e Wa ⟨rfl,l,m,j⟩
   replace HX:=Lh (HX.out.go HL.out j)
   replace HC:=Lh (HC.out.trans j)
   clear g x0 x1 Hm h1
   have Hm:=Lh m
   have x0:=HX.out.2.cellv (i:=0) (v:=.int .i64 _) rfl
   have x1:=HX.out.2.cellv (i:=1) (v:=.int .i64 nn) rfl
   clear m j
   rw[QU ho]
   have Ho:=Lh ho
   clear ho
   go_wp2_with fail
   refine(Yw _ _).mono ?_
   rintro e w' ⟨rfl,rfl⟩
   go_wp2_with fail
   refine(AfQ L HL.out t1 l q _ [a,b] 1 1 rfl qn Wa Hm.out ag.out bm).mono ?_
   rintro e Wb ⟨rfl,bb⟩
   have t:=Lh (Hm.out.below HL.out bb)
   have ac:RChg L l Wa l Wb:=RChg.below bb
   have w:=Lh (HC.out.trans ac)
   clear bb ac Hm HC HX x0 x1 bm
   have g:=Lh (h2 qn l Wb a0 t.out)
   clear a0 h2 a7
   go_wp2_with fail
   refine g.out.mono ?_
   rintro e Wc ⟨rfl,bh,bk,bj⟩
   have Hm:=Lh bk
   have HC:=Lh (w.out.trans bj)
   clear bk bj t w g
   cases hs2:s9.out with
   |none=>
    rw[QU hs2];have ah:=Lh hs2;clear hs2;go_wp2
    go_ret
    exact⟨(QU ah.out).symm,bh,Hm.out,HC.out⟩
   |some o=>
    have bl:s9.out.isSome=true:=by rw[hs2];rfl
    clear hs2;obtain⟨⟨ok,ox⟩,z⟩:=LI.1 bl;rw[Zu z];simp only[Zc];have aj:=Lh z;clear z bl;go_wp2
    exact⟨rfl,(Zu aj.out).symm,bh,Hm.out,HC.out⟩
 |@stmt ks s3 ht hdo=>
  clear ae;have Ht:Hid (20<=d/\d<=26):=ht;have g:=Lh (hdo q y W ag.out Hm.out);clear ht hdo;have e1:(d==1)=false:=by have:=Ht.out;simp;omega
  have e2:(d==2)=false:=by have:=Ht.out;simp;omega
  have e3:(d==3)=false:=by have:=Ht.out;simp;omega
  have e4:(d==4)=false:=by have:=Ht.out;simp;omega
  have e5:(d==5)=false:=by have:=Ht.out;simp;omega
  have e6:(d==6)=false:=by have:=Ht.out;simp;omega
  have ar:(d==18)=false:=by have:=Ht.out;simp;omega
  have au:(d==19)=false:=by have:=Ht.out;simp;omega
  have av:¬d<20:=by have:=Ht.out;omega
  clear x1;go_wp2_with (refine wpList_load_row rfl 65 _ rfl X rfl 65 #[.int .i64 d,.int .i64 nn] (0,0) _ HX.out.2 Tryz.underlying65 rfl (by kernel_rfl) ?_)
  refine g.out.mono ?_;rintro e Wa ⟨rfl,l,m,j⟩;have t:=Lh m;have w:=Lh (HC.out.trans j);clear m j Hm HC HX g x0 e1 e2 e3 e4 e5 e6 ar au av;cases hs2:s9.out with
  |none=>
   rw[JW hs2];have ah:=Lh hs2;clear hs2;go_wp2
   go_ret
   exact⟨(QU ah.out).symm,l,t.out,w.out⟩
  |some o=>
   obtain⟨ok,ox⟩:=o;rw[Jq hs2];simp only[Zc];have ah:=Lh hs2;clear hs2;go_wp2
   exact⟨rfl,(Zu ah.out).symm,l,t.out,w.out⟩
 |@pair a b s2 s3 vs u ht hch hr2=>
  clear ae;have Ht:Hid (7<=d/\d<=17):=ht;have Hr:Hid (PrC d vs s2 v9 s9):=hr2;clear ht hr2;have e1:(d==1)=false:=by have:=Ht.out;simp;omega
  have e2:(d==2)=false:=by have:=Ht.out;simp;omega
  have e3:(d==3)=false:=by have:=Ht.out;simp;omega
  have e4:(d==4)=false:=by have:=Ht.out;simp;omega
  have e5:(d==5)=false:=by have:=Ht.out;simp;omega
  have e6:(d==6)=false:=by have:=Ht.out;simp;omega
  have ar:(d==18)=false:=by have:=Ht.out;simp;omega
  have au:(d==19)=false:=by have:=Ht.out;simp;omega
  have av:d<20:=by have:=Ht.out;omega
  go_wp2_with fail
  refine(EE L HL.out [a,b] q s.tick s2 vs 2 rfl y W Hm.out ag.out.kids hch Hg.out.1 (by simp)).mono ?_;rintro e Wa ⟨l,m,j,hr⟩;cases Hr.out with
  |cut ho=>
   have bo:=Lh ho;clear Hr ho;rcases hr with⟨ok,ox,z,rfl⟩|⟨z,v,rfl,_⟩
   ·simp only[Zc];have aj:=Lh z;have w:=Lh (HC.out.trans j);have t:=Lh m;clear z m j Hm HC HX x0 x1 e1 e2 e3 e4 e5 e6 ar au av;go_wp2
    exact⟨rfl,(Zu aj.out).symm,l,t.out,w.out⟩
   ·exact absurd bo.out (by rw[z];simp)
  |@two v u r s2 s3 ho hp=>
   have Ho:=Lh ho;have Hp:=Lh hp;clear Hr ho hp;rcases hr with⟨ok,ox,z,rfl⟩|⟨_,lv,rfl,a2⟩
   ·exact absurd z (by rw[Ho.out];simp)
   obtain⟨A,bu,rfl,a9⟩:=a2.frd;obtain⟨ad,rfl,ak⟩:=Zg (k:=0) (x:=v) a9.1 rfl;obtain⟨bt,an,ay⟩:=Zg (k:=1) (x:=u) a9.1 rfl;injection an with an;subst an;replace ak:Wa.cell? ad=some (.int .i64 v):=ak;replace ay:Wa.cell? ⟨ad.block,ad.off+1,none⟩=some (.int .i64 u):=by simpa[Addr.add]using ay
   have be:=Lh (HX.out.go HL.out j);have w:=Lh (HC.out.trans j);have t:=Lh m;have x0:=be.out.2.cellv (i:=0) (v:=.int .i64 d) rfl;clear m j Hm HC HX a7 a9 a2 x1 e1 e2 e3 e4 e5 e6 ar au av;go_wp2_with fail
   refine QJ 8 (by kernel_rfl) (by kernel_rfl) ?_;simp only[L0,LE,Lz,LA];have ao:∀a u,Wa.cell? a=some u->Wa.drew.cell? a=some u:=λ_ _ h=>h
   replace x0:=ao _ _ x0;replace ak:=ao _ _ ak;replace ay:=ao _ _ ay;have af:RChg L l Wa l Wa.drew:=RChg.below ⟨rfl,rfl,rfl,Nat.le_refl _,λ_ _=>rfl⟩;have bd:=Lh (w.out.trans af);have bf:=Lh (t.out.drew1 HL.out);clear ao af w t be;generalize Wa.drew=Wd at*
   repeat still_step
   refine wpStill_nil ?_;go_wp2_with fail
   rcases Hp.out with⟨hp,rfl⟩|⟨hp,rfl,rfl⟩
   ·refine(AhI d v u _ _ Ht.out hp).mono ?_;rintro e w' ⟨rfl,rfl⟩;clear hp;go_wp2
    go_ret
    exact⟨(QU Ho.out).symm,l,bf.out,bd.out⟩
   ·refine(Aew d v u _ hp).mono ?_;rintro e w' ⟨rfl,rfl⟩;simp only[Zc];clear hp;go_wp2
    exact⟨rfl,rfl,l,bf.out.stop _ _,bd.out⟩
def Ajm (L:Lay):Gl->Ms->Int->Ms->Prop
 | .one t,s,v,s'=>s.out=none->EntD L t s v s'/\∀x a b,t=.node x [a,b]->x.tag=24->s.go->WhD L a b s.tick s'
 | .all ts,s,_,s'=>s.out=none->∃vs,Ko L ts s vs s'
theorem Zt{L:Lay}{x:Nd}{ks:List Tr}{s s':Ms}{v:Int}(ht:x.tag≠24)(h:EntD L (.node x ks) s v s'):Ajm L (.one (.node x ks)) s v s':=λ_=>⟨h,λ_ _ _ e h24 _=>absurd h24 (by injection e with e1 e2;rw[<-e1];exact ht)⟩
theorem Ah1{L:Lay}{x:Nd}{a b:Tr}{s s':Ms}{v:Int}(h:EntD L (.node x [a,b]) s v s')(hw:WhD L a b s.tick s'):Ajm L (.one (.node x [a,b])) s v s':=λ_=>⟨h,λ_ _ _ e _ _=>by
 injection e with e1 e2;injection e2 with e3 e4;injection e4 with e5 _;subst e3;subst e5;exact hw⟩
theorem Aiy{V:List Int}{x:Nd}{ks:List Tr}(h:okO V (.node x ks)):ks.length<=1000:=by
 have c:=h.1.arity;have d:=JT x;simp only[Tr.root,Tr.kids]at c;omega
theorem Ag1{V:List Int}{x:Nd}{ks:List Tr}(h:okO V (.node x ks))(ht:x.tag=20):x.n=(ks.length:Int):=by
 have c:=h.1.arity;simp only[Tr.root,Tr.kids]at c;unfold Qv Q9 at c;simp only[ht]at c;simp at c;split at c<;>omega
theorem X7{V:List Int}{x:Nd}{ks:List Tr}(hg:okO V (.node x ks))(ht:x.tag=4\/x.tag=22):0<=x.n/\∃t,V[x.n.toNat]? =some t/\QC t≠0:=by
 obtain⟨k,c,d⟩:=Qu hg;cases c<;>first|omega|skip
 case at_ hn t hv hz _=>exact⟨hn,t,hv,hz⟩
 case put hn t hv hz _ _=>exact⟨hn,t,hv,hz⟩
theorem AbS{L:Lay}{a b:Tr}{s s1 s2:Ms}{v u:Int}(h1:EntD L a s v s1)(o1:s1.out=none)(h2:EntD L b s1 u s2)(o2:s2.out=none):Ko L [a,b] s [v,u] s2:=⟨v,s1,h1,.inr ⟨o1,[u],rfl,u,s2,h2,.inr ⟨o2,[],rfl,rfl,rfl⟩⟩⟩
theorem AjB{L:Lay}{a b:Tr}{s s1 s2:Ms}{v u:Int}(h1:EntD L a s v s1)(o1:s1.out=none)(h2:EntD L b s1 u s2)(o2:s2.out.isSome=true):Ko L [a,b] s [v] s2:=⟨v,s1,h1,.inr ⟨o1,[],rfl,u,s2,h2,.inl ⟨o2,rfl⟩⟩⟩
theorem AbR{L:Lay}{a:Tr}{ts:List Tr}{s s1:Ms}{v:Int}(h1:EntD L a s v s1)(o1:s1.out.isSome=true):Ko L (a::ts) s [] s1:=⟨v,s1,h1,.inl ⟨o1,rfl⟩⟩
theorem Abp{s:Ms}(h:s.out≠none):s.out.isSome=true:=by
 cases e:s.out with
 |none=>exact absurd e h
 |some o=>rfl
theorem Agr{t:Tr}{s s':Ms}{r:Int}(h:Big (.one t) s r s')(ho:s.out=none)(hf:s.fuel=0):s'=s.stop 4 0:=by
 have c:¬s.go:=λh=>h.2 hf
 cases h<;>first|rfl| (exact absurd ‹s.go› c)| (rename_i h;rw[ho]at h;cases h)
theorem Agq{t:Tr}{s s':Ms}{u:Int}(h:Big (.one t) s u s')(ht:t.root.tag=20):u=0:=by
 cases h<;>simp only[Tr.root]at ht<;>first|rfl|omega
theorem AkV (L:Lay)(hL:DOk L)(x:Nd)(a:Tr)(ks:List Tr)(s s1:Ms)(v:Int)(hg:okO L.p.V (.node x (a::ks)))(h:s.go)(ht:XT x.tag)(he:EntD L a s.tick v s1)(ho:s1.out.isSome=true):Ajm L (.one (.node x (a::ks))) s 0 s1:=by
 obtain⟨k,c,d⟩:=Qu hg;cases c<;>first| (unfold XT at ht;omega)|skip
 case at_=>exact Zt (by omega) (QO L hL _ _ _ _ 0 h (.at_ (by omega) he (.cut ho)))
 case neg=>exact Zt (by omega) (QO L hL _ _ _ _ 0 h (.cut (by omega) he ho))
 case not=>exact Zt (by omega) (QO L hL _ _ _ _ 0 h (.cut (by omega) he ho))
 case pair b _ _ _ _=>exact Zt (by omega) (QO L hL _ _ _ _ 0 h (.pair (by omega) (AbR he ho) (.cut ho)))
 case logic b h89 _ _=>
  rcases h89 with e|e
  ·exact Zt (by omega) (QO L hL _ _ _ _ 0 h (.cut (by omega) he ho))
  ·exact Zt (by omega) (QO L hL _ _ _ _ 0 h (.cut (by omega) he ho))
 case set=>exact Zt (by omega) (QO L hL _ _ _ _ 0 h (.stmt (by omega) (Ah4 L hL x a s.tick s1 v (by omega) he ho)))
 case put b _ _ _ _ _ _ _=>exact Zt (by omega) (QO L hL _ _ _ _ 0 h (.stmt (by omega) (Ada L hL x a b s.tick s1 [] (by omega) h.1 (AbR he ho) ho)))
 case ifs=>exact Zt (by omega) (QO L hL _ _ _ _ 0 h (.stmt (by omega) (AjI L hL x a _ s.tick s1 v (by omega) he ho)))
 case «while» b _ _ _ _=>exact Ah1 (QO L hL _ _ _ _ 0 h (.stmt (by omega) (AbZ L hL x a b s.tick s1 (by omega) (.cut he ho)))) (.cut he ho)
 case ret=>exact Zt (by omega) (QO L hL _ _ _ _ 0 h (.stmt (by omega) (Ah3 L hL x a s.tick s1 v (by omega) he ho)))
theorem Big.dir (L:Lay)(hL:DOk L){g:Gl}{s s':Ms}{v:Int}(h:Big g s v s'):okG L.p.V g->OkS L.p.V s->s.evs.length<=s.steps->Ajm L g s v s':=by
 induction h with
 |nil s=>exact λ_ _ _ _=>⟨[],rfl,rfl⟩
 |cons t ts s s1 s2 v u h1 h2 i1 i2=>
  intro d i q j;have z:=(d t (by simp)).1;have he:=(i1 z i q j).1;by_cases ae:s1.out=none
  ·obtain⟨vs,y⟩:=i2 (λk z=>d k (by simp[z])) (h1.inv z i).1 (by have:=h1.ext.few;omega) ae;exact⟨v::vs,v,s1,he,.inr ⟨ae,vs,rfl,y⟩⟩
  ·have ab:=Abp ae;have e:=Uw h2 ab;subst e;exact⟨[],AbR he ab⟩
 |over t s h=>exact λ_ _ _ j=>absurd h (by rw[j];simp)
 |empty t s h h0=>exact λ_ _ _ _=>⟨AkY L hL t s 0 h0,λ_ _ _ _ _ d=>absurd h0 d.2⟩
 |lit x s h ht=>exact λ_ _ _=>Zt (by omega) (QO L hL _ _ _ _ _ h (.lit ht rfl))
 |var x s h ht=>
  intro d i _;obtain⟨k,sh,z⟩:=Qu d;cases sh<;>first|omega|skip
  case var hn o h01=>exact Zt (by omega) (QO L hL _ _ _ _ _ h (.var ht hn o (by rcases h01 with e|e<;>rw[e]<;>rfl) i.vlen rfl))
 |skip x s h ht=>exact λ_ _ _=>Zt (by omega) (QO L hL _ _ _ _ 0 h (.stmt (by omega) (AkW L hL x s.tick ht h.1)))
 |block x ks s s1 u h ht h1 i1=>
  intro d i q;obtain⟨k,sh,z⟩:=Qu d;have ah:∀k∈ks,ofT L.p.V k=2:=by cases sh<;>first|omega|assumption
  obtain⟨vs,y⟩:=i1 (λk z=>⟨Ql d z,ah k z⟩) i.tick (by simp only[Ms.tick];omega) h.1;exact Zt (by omega) (QO L hL _ _ _ _ 0 h (.stmt (by omega) (AjH L hL x ks vs s.tick s1 ht (Ag1 d ht) (Aiy d) h.1 y)))
 |cut x a ks s s1 v h ht h1 j i1=>exact λd i q=>AkV L hL x a ks s s1 v d h ht (i1 (Ql d (by simp)) i.tick (by simp only[Ms.tick];omega) h.1).1 j
 |atNo x a s s1 v h ht h1 j hb i1=>
  intro d i q;obtain⟨hn,t,o,hz⟩:=X7 d (.inl ht);exact Zt (by omega) (QO L hL _ _ _ _ _ h (.at_ ht (i1 (Ql d (by simp)) i.tick (by simp only[Ms.tick];omega) h.1).1 (.no j hn o hz (h1.inv (Ql d (by simp):okG _ (.one a)) i.tick).1.lens hb)))
 |at_ x a s s1 v h ht h1 j hb i1=>
  intro d i q;obtain⟨hn,t,o,hz⟩:=X7 d (.inl ht);exact Zt (by omega) (QO L hL _ _ _ _ _ h (.at_ ht (i1 (Ql d (by simp)) i.tick (by simp only[Ms.tick];omega) h.1).1 (.yes j hn o hz (h1.inv (Ql d (by simp):okG _ (.one a)) i.tick).1.lens hb rfl)))
 |neg x a s s1 v h ht h1 j i1=>exact λd i q=>Zt (by omega) (QO L hL _ _ _ _ _ h (.neg ht (i1 (Ql d (by simp)) i.tick (by simp only[Ms.tick];omega) h.1).1 j rfl))
 |not x a s s1 v h ht h1 j i1=>
  intro d i q;have n:=Ql d (k:=a) (by simp);obtain⟨k,sh,z⟩:=Qu d;have ac:ofT L.p.V a=1:=by cases sh<;>first|omega|assumption
  exact Zt (by omega) (QO L hL _ _ _ _ _ h (.not ht (i1 n i.tick (by simp only[Ms.tick];omega) h.1).1 j ((h1.inv (n:okG _ (.one a)) i.tick).2.2 j a rfl ac) rfl))
 |and0 x a b s s1 h ht h1 j i1=>exact λd i q=>Zt (by omega) (QO L hL _ _ _ _ _ h (.log0 (.inl ⟨ht,rfl⟩) (i1 (Ql d (by simp)) i.tick (by simp only[Ms.tick];omega) h.1).1 j))
 |and1 x a b s s1 s2 v u h ht h1 j o h2 i1 i2=>
  intro d i q;have n:=Ql d (k:=a) (by simp);have m:s.tick.evs.length<=s.tick.steps:=by simp only[Ms.tick];omega
  exact Zt (by omega) (QO L hL _ _ _ _ _ h (.log1 (.inl ⟨ht,o⟩) (i1 n i.tick m h.1).1 j (i2 (Ql d (by simp)) (h1.inv (n:okG _ (.one a)) i.tick).1 (by have:=h1.ext.few;omega) j).1))
 |or1 x a b s s1 h ht h1 j i1=>exact λd i q=>Zt (by omega) (QO L hL _ _ _ _ _ h (.log0 (.inr ⟨ht,rfl⟩) (i1 (Ql d (by simp)) i.tick (by simp only[Ms.tick];omega) h.1).1 j))
 |or0 x a b s s1 s2 v u h ht h1 j o h2 i1 i2=>
  intro d i q;have n:=Ql d (k:=a) (by simp);have m:s.tick.evs.length<=s.tick.steps:=by simp only[Ms.tick];omega
  exact Zt (by omega) (QO L hL _ _ _ _ _ h (.log1 (.inr ⟨ht,o⟩) (i1 n i.tick m h.1).1 j (i2 (Ql d (by simp)) (h1.inv (n:okG _ (.one a)) i.tick).1 (by have:=h1.ext.few;omega) j).1))
 |set x a s s1 v h ht h1 j i1=>
  intro d i q;have n:=Ql d (k:=a) (by simp);have m:s.tick.evs.length<s.tick.steps:=by simp only[Ms.tick];omega
  have he:=(i1 n i.tick (Nat.le_of_lt m) h.1).1;have ak:=(h1.inv (n:okG _ (.one a)) i.tick).1.vlen;obtain⟨k,sh,z⟩:=Qu d;cases sh<;>first|omega|skip
  case set hn t o h01 hxx=>exact Zt (by omega) (QO L hL _ _ _ _ 0 h (.stmt (by omega) (Aly L hL x a s.tick s1 v t ht he j hn o (by rcases h01 with e|e<;>rw[e]<;>rfl) ak (by have:=h1.ext.few;omega))))
 |ifs x a b c t s s1 s2 v u h ht h1 j o h2 i1 i2=>
  intro d i q;have n:=Ql d (k:=a) (by simp);have m:s.tick.evs.length<=s.tick.steps:=by simp only[Ms.tick];omega
  obtain⟨k,sh,z⟩:=Qu d;have ac:ofT L.p.V a=1:=by cases sh<;>first|omega|assumption
  have hi:=h1.inv (n:okG _ (.one a)) i.tick;have aj:okO L.p.V t:=Ql d (Lf o)
  have ai:t.root.tag=20:=by
   cases sh<;>first|omega|skip
   have:=hi.2.2 j a rfl ac;rcases this with rfl|rfl
   ·have:c=t:=by simpa using o
    subst this;assumption
   ·have:b=t:=by simpa using o
    subst this;assumption
  have af:=(i2 aj hi.1 (by have:=h1.ext.few;omega) j).1;obtain rfl:=Agq h2 ai;exact Zt (by omega) (QO L hL _ _ _ _ 0 h (.stmt (by omega) (AlZ L hL x a b c t s.tick s1 s2 v 0 ht (i1 n i.tick m h.1).1 j (hi.2.2 j a rfl ac) o af)))
 |while0 x a b s s1 v h ht h1 j o i1=>
  intro d i q;have he:=(i1 (Ql d (by simp)) i.tick (by simp only[Ms.tick];omega) h.1).1;exact Ah1 (QO L hL _ _ _ _ 0 h (.stmt (by omega) (AbZ L hL x a b s.tick s1 ht (.done he j o)))) (.done he j o)
 |while1 x a b s s1 s2 s3 u r h ht h1 j h2 h3 i1 i2 i3=>
  intro d i q;have n:=Ql d (k:=a) (by simp);have hb:=Ql d (k:=b) (by simp);have m:s.tick.evs.length<=s.tick.steps:=by simp only[Ms.tick];omega
  have w:=(h1.inv (n:okG _ (.one a)) i.tick).1;have e1:=(i1 n i.tick m h.1).1;have e2:=(i2 hb w (by have:=h1.ext.few;omega) j).1
  have hw:WhD L a b s.tick s3:=by
   by_cases l:s2.out=none
   ·by_cases ad:s2.fuel=0
    ·rw[Agr h3 l ad];exact .empty e1 j e2 l ad
    ·have ag:=(i3 d (h2.inv (hb:okG _ (.one b)) w).1 (by have:=h1.ext.few;have:=h2.ext.few;omega) l).2 x a b rfl ht ⟨l,ad⟩;have x1:=h1.ext;have x2:=h2.ext;exact .more e1 j e2 ⟨l,ad⟩ (by have:=x1.sum;have:=x1.fuel;have:=x2.sum;have:=x2.fuel;omega) ag
   ·have ab:=Abp l;rw[Uw h3 ab];exact .cut2 e1 j e2 ab
  exact Ah1 (QO L hL _ _ _ _ 0 h (.stmt (by omega) (AbZ L hL x a b s.tick s3 ht hw))) hw
 |ret x a s s1 v h ht h1 j i1=>exact λd i q=>Zt (by omega) (QO L hL _ _ _ _ 0 h (.stmt (by omega) (Alx L hL x a s.tick s1 v ht (i1 (Ql d (by simp)) i.tick (by simp only[Ms.tick];omega) h.1).1 j)))
 |cut2 x a b s s1 s2 v u h ht h1 j h2 l i1 i2=>
  intro d i q;have n:=Ql d (k:=a) (by simp);have m:s.tick.evs.length<=s.tick.steps:=by simp only[Ms.tick];omega
  have y:=AjB (i1 n i.tick m h.1).1 j (i2 (Ql d (by simp)) (h1.inv (n:okG _ (.one a)) i.tick).1 (by have:=h1.ext.few;omega) j).1 l;obtain⟨k,sh,z⟩:=Qu d;cases sh<;>first| (unfold wide XT at ht;omega)|skip
  case pair=>exact Zt (by omega) (QO L hL _ _ _ _ 0 h (.pair (by omega) y (.cut l)))
  case put=>exact Zt (by omega) (QO L hL _ _ _ _ 0 h (.stmt (by omega) (Ada L hL x a b s.tick s2 [v] (by omega) h.1 y l)))
 |putNo x a b s s1 s2 v u h ht h1 j h2 l hb i1 i2=>
  intro d i q;have n:=Ql d (k:=a) (by simp);have aa:=Ql d (k:=b) (by simp);have m:s.tick.evs.length<=s.tick.steps:=by simp only[Ms.tick];omega
  have w:=(h1.inv (n:okG _ (.one a)) i.tick).1;obtain⟨hn,t,o,hz⟩:=X7 d (.inr ht);exact Zt (by omega) (QO L hL _ _ _ _ 0 h (.stmt (by omega) (AjK L hL x a b s.tick s2 v u t ht h.1 (AbS (i1 n i.tick m h.1).1 j (i2 aa w (by have:=h1.ext.few;omega) j).1 l) l hn o hz (h2.inv (aa:okG _ (.one b)) w).1.lens hb)))
 |put x a b s s1 s2 v u h ht h1 j h2 l hb i1 i2=>
  intro d i q;have n:=Ql d (k:=a) (by simp);have aa:=Ql d (k:=b) (by simp);have m:s.tick.evs.length<s.tick.steps:=by simp only[Ms.tick];omega
  have w:=(h1.inv (n:okG _ (.one a)) i.tick).1;obtain⟨hn,t,o,hz⟩:=X7 d (.inr ht);exact Zt (by omega) (QO L hL _ _ _ _ 0 h (.stmt (by omega) (Alw L hL x a b s.tick s2 v u t ht h.1 (AbS (i1 n i.tick (Nat.le_of_lt m) h.1).1 j (i2 aa w (by have:=h1.ext.few;omega) j).1 l) l hn o hz (h2.inv (aa:okG _ (.one b)) w).1.lens hb (by have:=h1.ext.few;have:=h2.ext.few;omega))))
 |pairNo x a b s s1 s2 v u h ht h1 j h2 l hp i1 i2=>
  intro d i q;have n:=Ql d (k:=a) (by simp);have m:s.tick.evs.length<=s.tick.steps:=by simp only[Ms.tick];omega
  exact Zt (by omega) (QO L hL _ _ _ _ _ h (.pair ht (AbS (i1 n i.tick m h.1).1 j (i2 (Ql d (by simp)) (h1.inv (n:okG _ (.one a)) i.tick).1 (by have:=h1.ext.few;omega) j).1 l) (.two l (.inr ⟨hp,rfl,rfl⟩))))
 |pair x a b s s1 s2 v u c h ht h1 j h2 l hp i1 i2=>
  intro d i q;have n:=Ql d (k:=a) (by simp);have m:s.tick.evs.length<=s.tick.steps:=by simp only[Ms.tick];omega
  exact Zt (by omega) (QO L hL _ _ _ _ _ h (.pair ht (AbS (i1 n i.tick m h.1).1 j (i2 (Ql d (by simp)) (h1.inv (n:okG _ (.one a)) i.tick).1 (by have:=h1.ext.few;omega) j).1 l) (.two l (.inl ⟨hp,rfl⟩))))
section
variable {P:Program} {Q:Exit->Act->List Frame->World->Prop} {a:Act} {cs:List Frame} {w:World} {ops:Array Oper} {rest:List Oper} {o:Oper}
def Z1 (P:Program)(ops:Array Oper)(Q:Exit->Act->List Frame->World->Prop):List Oper->Act->List Frame->World->Prop
 |[],a,cs,w=>Q .normal a cs w
 |o::rest,a,cs,w=>
  if Region.wanted o (yielded ops a.tmps)then
   match (execOp a.eval o).run P w with
   | .ok .recover w'=>
    match recoverD cs with
    |some (v,cs')=>Z1 P ops Q rest (a.put o.dst v) cs' w'
    |none=>Z1 P ops Q rest (a.put o.dst .nilIface) cs w'
   |r=>o.upon P a (λa' w'=>Z1 P ops Q rest a' cs w') (λe a' w'=>Q e a' cs w') r
  else Z1 P ops Q rest (a.put o.dst undef) cs w
theorem Aen (l:List Oper):∀k,(∀j,l[j]? =ops[k+j]?)->wpOpsS P ops Q (List.range' k l.length)=Z1 P ops Q l:=by
 induction l with
 |nil=>intro k _;funext a cs w;simp[wpOpsS,Z1]
 |cons o l ih=>
  intro k h;have c:ops[k]? =some o:=by have:=h 0;simpa using this.symm
  have hi:=ih (k+1) (λj=>by have:=h (j+1);simp only[LW]at this;rw[this];congr 1;omega);funext a cs w;rw[Lc,List.range'_succ,wpOpsS,c,Z1,hi];rfl
theorem YR{id:Nat}{l:List Oper}(h:Z1 P l.toArray Q l a cs w):(Code.region id l.toArray false).wpS P Q a cs w:=by
 refine wpS_region ?_;rw[Lk,List.range_eq_range',Aen l 0 (λj=>by rw[LG];simp)];exact h
theorem YN{o:Oper}{y:Nat->Option Bool}(h:o.guard=none):Region.wanted o y=true:=by unfold Region.wanted;rw[h]
theorem Jg (hgd:o.guard=none)(h:o.wp P a w (λa' w'=>Z1 P ops Q rest a' cs w') (λe a' w'=>Q e a' cs w')):Z1 P ops Q (o::rest) a cs w:=by
 simp only[Z1,YN hgd,if_true];unfold Oper.wp at h;split
 ·rename_i c;rw[c]at h;exact h.elim
 ·exact h
theorem All (hgd:o.guard=none)(he:(execOp a.eval o).run P w=.ok .recover w){v:Value}{cs':List Frame}(hr:recoverD cs=some (v,cs'))(h:Z1 P ops Q rest (a.put o.dst v) cs' w):Z1 P ops Q (o::rest) a cs w:=by
 simp only[Z1,YN hgd,if_true,he,hr];exact h
theorem AhA (hgd:o.guard=none)(he:(execOp a.eval o).run P w=.ok .recover w)(hr:recoverD cs=none)(h:Z1 P ops Q rest (a.put o.dst .nilIface) cs w):Z1 P ops Q (o::rest) a cs w:=by
 simp only[Z1,YN hgd,if_true,he,hr];exact h
end
theorem VP{P:Program}{ρ:Operand->Value}{o:Oper}{x:Operand}{t u:TypeId}{b:Bool}{v:Value}{w w':World}(ho:o.op=.typeAssert x t u b)(h:(Instr.typeAssert (ρ x) t u b).run P w=.ok v w'):(execOp ρ o).run P w=.ok (.value v) w':=by
 simp only[execOp,ho,Sem.run_bind,h,Result.andThen_ok,Sem.run_pure]
end Go.Proofs.YtkoikjnlpifbjaaGreat
