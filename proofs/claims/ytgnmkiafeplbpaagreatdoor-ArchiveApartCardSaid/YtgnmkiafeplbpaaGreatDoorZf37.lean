/- Lemmas for ArAll. -/
import Derived.Test.YtgnmkiafeplbpaaGreatDoorZf1
import Derived.Test.YtgnmkiafeplbpaaGreatDoorZf36
import Derived.Test.YtgnmkiafeplbpaaGreatDoorZf14
import Derived.Test.YtgnmkiafeplbpaaGreatDoorZf30
import Derived.Test.YtgnmkiafeplbpaaGreatDoorZf28
import Derived.Test.YtgnmkiafeplbpaaGreatDoorZf20
set_option linter.unusedVariables false
set_option linter.unusedSimpArgs false
set_option maxRecDepth 100000
set_option maxHeartbeats 16000000
namespace Go.Proofs.YtgnmkiafeplbpaaGreatDoor
open Go.RowKit Go.Deep
attribute [local go_sem] Oper.semAt_some
def PgV.pd (p:PgV):Pd:=⟨p.params,p.V,p.body⟩
noncomputable def YT (p:PgV):List UInt8×Int:=if QP p≠0 then([],QP p)else(JD p.pd,0)
theorem Y4 (p:PgV):QP p.pd.pg=QP p:=Xl rfl rfl rfl
theorem AgQ (t:Int):XI t=0\/XI t=1\/XI t=2:=by
 unfold XI;split
 ·exact .inr (.inr rfl)
 ·split
  ·exact .inr (.inl rfl)
  ·exact .inl rfl
theorem Ahe (n:Int):(zz n).length<=10:=Qz _
theorem AhC (x:Nd):(JV x).length<=11:=by
 unfold JV UF;rw[Le];split
 ·have:=Ahe x.n;omega
 ·split
  ·have:=Qz x.n.toNat;omega
  ·simp
theorem AfI (l:List Nd):(l.flatMap JV).length<=11*l.length:=by
 induction l with
 |nil=>simp
 |cons x l ih=>
  rw[LF,La,Le];have:=AhC x;omega
theorem Ae5 (w:World):(zeroValue 52).run Tryz.prog w=.ok (.agg #[.int .i64 0,.int .i64 0]) w:=by kernel_rfl
theorem YC (p:PgV)(hbl:p.body.length<=1000)(w:World)(hok:p.ok w):
 Calls Tryz.prog 25 #[.agg p.cells] w λe w'=>e=.returned (.tuple #[.string ⟨(YT p).1.toArray⟩,.int .i64 (YT p).2])/\Below w.heap.size w w':=by
 obtain⟨z,hz⟩:∃z,z=YT p:=⟨_,rfl⟩;have Hz:=Lv hz;rw[<-hz];have a4:=Lv hbl;have ae:=Lv hok;clear hz hbl hok;go_enter Tryz.func25,Tryz.ntmps25
 go_wp2_with (refine Qx _ _ rfl ?_)
 refine Stop.to ?_;refine Qf rfl 25 _ rfl p.cells rfl ?_;intro P Pw Ph Pr Pb;have b1:=Pb.mono Ph;have HK:=Lv (UC p a4.out Pw (ae.out.go b1));go_wp2_with (refine wpList_load_row rfl 25 _ rfl P rfl 25 p.cells (0,0) _ Pr Tryz.underlying25 rfl (by kernel_rfl) ?_)
 refine HK.out.mono ?_;rintro e w2 ⟨rfl,b2⟩;have r2:=Pr.below b2 Pr.lt;have j:=b1.trans (b2.mono b1.size);have bh:Hid (w.heap.size<=P):=Ph;clear Pr Pb Ph b1 b2 HK;by_cases hc:QP p=0
 ·have HG:Hid (z=(JD p.pd,0)):=Hz.out.trans (by unfold YT;rw[if_neg (λh=>h hc)]);rw[hc];clear Hz;go_wp2_with fail
  have HF:=Lv (Yh (x:=p.pd) ⟨by rw[Y4];exact hc,λy hy=>(ae.out.bin y hy).2⟩);have ag:∃pn:Nat,p.params=(pn:Int):=⟨p.params.toNat,by have:=HF.out.1.1;simp only[PgV.pd]at this;omega⟩;obtain⟨pn,ag⟩:=ag;have a5:=Lv ag;have bg:pn<=12:=by have:=HF.out.1.2;simp only[PgV.pd]at this;omega
  have bl:p.V.length<=12:=HF.out.2.1;have cP:∀W,Row W P 25 p.cells->W.cell? ⟨P,0,none⟩=some (.int .i64 (pn:Int)):=λW h=>by rw[<-ag];exact h.cellv (i:=0) rfl
  clear ag hc;obtain⟨Vd,au⟩:∃Vd,Vd=w2.drew:=⟨_,rfl⟩;have bd:Below w2.heap.size w2 Vd:=by rw[au];exact St.drew (S:=λW=>Below w2.heap.size w2 W) (Below.refl _ _)
  have hS:=r2.below bd r2.lt;have a:=j.trans (bd.mono j.size);refine wp_region_held (S:=λW=>Row W P 25 p.cells) (by kernel_rfl) ?_;simp only[Ly,Le,Ll,Nat.reduceAdd,Ln,Lp,Lz,Lu,Lk];show wpAnyH _ _ _ _ _ _ _ _ w2.drew;rw[<-au];clear au r2 j bd;(refine tkH 1 (.pointer (some ⟨P,0,none⟩)) rfl (Qd rfl (λW hW=>by(go_simp))) ?_;simp only[Act.put,Qa,Qb,Qc]);(refine tkH 2 (.int .i64 (pn:Int)) rfl (Qd rfl (λW hW=>by((have c:=cP W hW;go_simp)))) ?_;simp only[Act.put,Qa,Qb,Qc]);(refine tkH 4 (.pointer (some ⟨P,1,none⟩)) rfl (Qd rfl (λW hW=>by(go_simp))) ?_;simp only[Act.put,Qa,Qb,Qc]);(refine tkH 5 (.slice p.va p.V.length p.vcap) rfl (Qd rfl (λW hW=>by((have c:=Row.cellv hW (i:=1) (v:=.slice p.va p.V.length p.vcap) rfl;go_simp)))) ?_;simp only[Act.put,Qa,Qb,Qc]);(refine tkH 6 (.int .i64 (p.V.length:Int)) rfl (Qd rfl (λW hW=>by(go_simp))) ?_;simp only[Act.put,Qa,Qb,Qc]);(refine wpAnyH_all (rs:=[0]) (by kernel_rfl) (by simp) (λi hi=>?_);obtain rfl:i=0:=by simpa using hi);refine Qg rfl rfl (λK2 q=>?_);refine Qm 84 #[] (w1:=Vd) (by go_simp) ((JS Vd).mono ?_);rintro e W1 ⟨g,rfl,h1,b3,hg⟩;refine⟨_,rfl,?_⟩;refine q _ _ ?_;clear q K2;simp only[Act.put,Qa,Qb,Qc];have aq:=hS.below b3 hS.lt;have d:=a.trans (b3.mono a.size);have b:Hid (P<g/\w.heap.size<=g):=⟨Lg hS.lt hg,Lj a.size hg⟩;refine⟨aq,?_⟩;clear hS a b3 hg;(refine wpAnyH_all (rs:=[3]) (by kernel_rfl) (by simp) (λi hi=>?_);obtain rfl:i=3:=by simpa using hi);refine Qg rfl rfl (λK2 q=>?_);refine Qm 83 #[.pointer (some ⟨g,0,none⟩),.int .i64 (pn:Int)] (w1:=W1) (by go_simp) ((UT g g [] pn (by simp) (by omega) W1 h1).mono ?_);rintro e W2 ⟨rfl,h2,f2⟩;refine⟨_,rfl,?_⟩;refine q _ _ ?_;clear q K2;simp only[Act.put,Qa,Qb,Qc];have ar:=f2.row aq (by have:=b.out;omega) (by decide);have u:=d.trans ((f2.below (Nat.le_refl _) (L9 h1.lt)).mono b.out.2);refine⟨ar,?_⟩;clear aq d h1 f2;have bj:=Qz pn;(refine wpAnyH_all (rs:=[7]) (by kernel_rfl) (by simp) (λi hi=>?_);obtain rfl:i=7:=by simpa using hi);refine Qg rfl rfl (λK2 q=>?_);refine Qm 83 #[.pointer (some ⟨g,0,none⟩),.int .i64 (p.V.length:Int)] (w1:=W2) (by go_simp) ((UT g g _ p.V.length (by simp;omega) (by omega) W2 h2).mono ?_);rintro e W3 ⟨rfl,h3,f3⟩;refine⟨_,rfl,?_⟩;refine q _ _ ?_;clear q K2;simp only[Act.put,Qa,Qb,Qc];have ak:=f3.row ar (by have:=b.out;omega) (by decide);have s:=u.trans ((f3.below (Nat.le_refl _) (L9 h2.lt)).mono b.out.2);refine⟨ak,?_⟩;clear ar u h2 f3;(refine tkH 8 (.pointer (some ⟨g,0,none⟩)) rfl (Qd rfl (λW hW=>by(go_simp))) ?_;simp only[Act.put,Qa,Qb,Qc]);refine wpAnyH_done (by kernel_rfl) ?_ _;have c1:=Row.cellv ak (i:=1) (v:=.slice p.va p.V.length p.vcap) rfl;obtain⟨L1,ah⟩:∃L1,L1=QC pn++QC p.V.length:=⟨_,rfl⟩;have be:L1.length<=20:=by rw[ah,La];have:=Qz p.V.length;omega
  replace h3:Wr W3 g g L1:=by rw[ah];simpa using h3
  have a2:=Lv ah;have HI:Hid (Wr W3 g g L1/\Row W3 P 25 p.cells/\Below w.heap.size w W3):=⟨h3,ak,s⟩;clear ah h3 s;go_wp2_with fail
  go_loopw [28] (λi W=>∃k:Nat,i=.int .i64 (k:Int)/\k<=p.V.length/\Wr W g g (L1++(p.V.take k).flatMap YA)/\Row W P 25 p.cells/\Below w.heap.size w W) (λi _=>p.V.length-(intOf i).toNat)
  case atStart=>exact⟨0,rfl,Nat.zero_le _,by simpa using HI.out.1,HI.out.2⟩
  case round=>
   obtain⟨k,rfl,hk,hw,hP,hb⟩:=hrel;clear c1 ak
   have am:((p.V.take k).flatMap YA).length<=12:=by
    have e:∀l:List Int,(l.flatMap YA).length=l.length:=λl=>by induction l with
     |nil=>rfl
     |cons x l ih=>rw[LF,La,ih,Le];show 1+_=_;omega
    rw[e,LH];omega
   by_cases aa:k<p.V.length
   ·obtain⟨t,ht⟩:∃t,p.V[k]? =some t:=⟨_,Ld aa⟩;obtain⟨ad,av,al⟩:=Q4 ((ae.out.go hb).vrd) ht;have bb:=HF.out.2.2.1 t (Li ht);have hu:=Aaa bb.1 (by omega);have bc:IntKind.u8.wrap t=t:=by rw[IntKind.wrap_u8];omega
    have af:Hid ((p.V.take (k+1)).flatMap YA=(p.V.take k).flatMap YA++[UInt8.ofNat t.toNat]):=by show _=_;rw[L5,ht];simp[YA]
    have Hw:=Lv (JT g g _ (UInt8.ofNat t.toNat) (by rw[La];omega) wr hw);rw[hu]at Hw;have a8:(k:Int)<(p.V.length:Int):=by omega
    have a9:(0:Int)<=(k:Int):=by omega
    rw[av];clear ht aa;go_wp2_with fail
    refine Hw.out.mono ?_;rintro e W5 ⟨rfl,h5,f5⟩;rw[L4, <-af.out]at h5;have aj:=f5.row hP (by have:=b.out;omega) (by decide);have u:=hb.trans ((f5.below (Nat.le_refl _) (L9 hw.lt)).mono b.out.2);clear hw hP hb f5 Hw al;go_wp2_with fail
    go_roundw
    case rel=>exact⟨k+1,by go_num,by omega,h5,aj,u⟩
    case measure=>simp[intOf];omega
   ·obtain rfl:k=p.V.length:=by omega
    rw[Lm (Nat.le_refl _)]at hw am;have bi:p.body.length<=200:=HF.out.2.2.2.1;have c2:=Row.cellv hP (i:=2) (v:=.slice p.ba p.body.length p.bcap) rfl;have Hn:=Lv (UT g g _ p.body.length (by rw[La];omega) (by omega) wr hw);obtain⟨L2,ai⟩:∃L2,L2=L1++p.V.flatMap YA++QC p.body.length:=⟨_,rfl⟩;have bf:L2.length<=50:=by rw[ai,La,La];have:=Qz p.body.length;omega
    rw[<-ai]at Hn;have a3:=Lv ai;have HW:=Lv (And.intro hw (And.intro hP hb));clear ai hw aa hk am hP hb HI;go_wp2_with fail
    refine Hn.out.mono ?_;rintro e W5 ⟨rfl,h5,f5⟩;have aj:=f5.row HW.out.2.1 (by have:=b.out;omega) (by decide);have u:=HW.out.2.2.trans ((f5.below (Nat.le_refl _) (L9 HW.out.1.lt)).mono b.out.2);have c3:=Row.cellv aj (i:=2) (v:=.slice p.ba p.body.length p.bcap) rfl;have HI:Hid (Wr W5 g g L2/\Below w.heap.size w W5):=⟨h5,u⟩;clear f5 Hn c2 HW h5 u;go_wp2_with fail
    go_loopw [45] (λi W=>∃k:Nat,i=.int .i64 (k:Int)/\k<=p.body.length/\Wr W g g (L2++(p.body.take k).flatMap JV)/\Below w.heap.size w W) (λi _=>p.body.length-(intOf i).toNat)
    case atStart=>exact⟨0,rfl,Nat.zero_le _,by simpa using HI.out.1,HI.out.2⟩
    case round=>
     obtain⟨k,rfl,hk,hw,hb⟩:=hrel;clear c3 aj
     have am:(L2++(p.body.take k).flatMap JV).length<=2300:=by
      have:=AfI (p.body.take k);rw[LH]at this;rw[La];omega
     by_cases aa:k<p.body.length
     ·obtain⟨x,hx⟩:∃x,p.body[k]? =some x:=⟨_,Ld aa⟩;obtain⟨ad,av,al⟩:=JG ((ae.out.go hb).brd) hx;have ax:=Li hx;have an:=AjH (Int.not_lt.2 (HF.out.2.2.2.2 x ax));have a0:=(ae.out.bin x ax).2;have af:Hid ((p.body.take (k+1)).flatMap JV=(p.body.take k).flatMap JV++([UInt8.ofNat x.tag.toNat]++UF x)):=by show _=_;rw[L5,hx];simp[JV]
      obtain⟨t,n⟩:=x;simp only at an a0;have hu:=Aaa (n:=t) (by omega) (by omega);have bc:IntKind.u8.wrap t=t:=by rw[IntKind.wrap_u8];omega
      have Hw:=Lv (λW h=>JT g g (L2++(p.body.take k).flatMap JV) (UInt8.ofNat t.toNat) (by omega) W h);rw[hu]at Hw;have a8:(k:Int)<(p.body.length:Int):=by omega
      have a9:(0:Int)<=(k:Int):=by omega
      have HW:=Lv (And.intro hw hb);rw[av];clear hx ax aa hw hb;go_wp2_with (first| (refine Qn rfl 52 _ rfl (ad.add (k*2)) rfl (Nd.cells ⟨t,n⟩) _ al Tryz.underlying52 rfl (by kernel_rfl) ?_)| (refine Qs _ rfl ?_))
      refine Stop.to ?_;refine Qi rfl 52 rfl _ _ (Ae5 _) rfl ?_;intro M V0 hM rM bM;go_wp2_with (refine Qk _ _ _ rfl ?_)
      refine Stop.to ?_;refine Qh rfl 52 _ _ rfl M #[.int .i64 t,.int .i64 n] rfl rfl 52 _ rM (by kernel_rfl) rfl (by simp[Value.oneCell']) ?_;intro V1 r1 o1;have ap:=(bM.mono hM).trans (o1.below hM);have aw:=HW.out.1.go ap;have az:=HW.out.2.trans (ap.mono HW.out.2.size);have a7:g≠M:=by have:=HW.out.1.lt;omega
      have c0:=r1.cellv (i:=0) (v:=.int .i64 t) rfl;clear rM bM hM o1 al ap HW;go_wp2_with fail
      refine(Hw.out V1 aw).mono ?_;rintro e V2 ⟨rfl,h2,f2⟩;have r2:=f2.row r1 a7.symm (by decide);have j:=az.trans ((f2.below (Nat.le_refl _) (L9 aw.lt)).mono b.out.2);have c2:=r2.cellv (i:=0) (v:=.int .i64 t) rfl;have a6:=r2.cellv (i:=1) (v:=.int .i64 n) rfl;clear aw az r1 c0 f2 Hw;go_wp2_with fail
      refine(AjL t V2).mono ?_;rintro e V3 ⟨rfl,b3⟩;have h3:=h2.go b3;have r3:=r2.below b3 r2.lt;have a:=j.trans (b3.mono j.size);have ab:=r3.cellv (i:=1) (v:=.int .i64 n) rfl;clear h2 r2 j c2 a6 b3;rcases AgQ t with o|o|o
      ·rw[o];have ac:Hid (UF ⟨t,n⟩=[]):=by show _=_;unfold UF;simp[o]
       go_wp2_with (refine Qs _ rfl ?_)
       refine Stop.to ?_;refine Qi rfl 122 rfl _ _ (Kx _) rfl ?_;intro R V4 hR rR bR;go_wp2_with (refine Qk _ _ _ rfl ?_)
       refine Stop.to ?_;refine Qh rfl 122 _ _ rfl R (ZG 0) rfl rfl 122 _ rR (by kernel_rfl) rfl (by simp[ZG,Value.oneCell']) ?_;intro V5 r4 o4;have b4:=(bR.mono hR).trans (o4.below hR);have h4:=h3.go b4;have d:=a.trans (b4.mono a.size);replace ab:=(r3.below b4 r3.lt).cellv (i:=1) rfl;clear rR bR hR o4 b4 h3 a r3;clear ab r4;go_wp2_with fail
       go_roundw
       case rel=>exact⟨k+1,by go_num,by omega,by rw[af.out,ac.out];simpa using h4,d⟩
       case measure=>simp[intOf];omega
      ·rw[o];have bk:=an.2.2 (by rw[o];decide);obtain⟨m,hm⟩:∃m:Nat,n=(m:Int):=⟨n.toNat,by omega⟩;subst hm;have ac:Hid (UF ⟨t,(m:Int)⟩=QC m):=by show _=_;unfold UF;simp[o]
       go_wp2_with (refine Qs _ rfl ?_)
       refine Stop.to ?_;refine Qi rfl 122 rfl _ _ (Kx _) rfl ?_;intro R V4 hR rR bR;go_wp2_with (refine Qk _ _ _ rfl ?_)
       refine Stop.to ?_;refine Qh rfl 122 _ _ rfl R (ZG 1) rfl rfl 122 _ rR (by kernel_rfl) rfl (by simp[ZG,Value.oneCell']) ?_;intro V5 r4 o4;have b4:=(bR.mono hR).trans (o4.below hR);have h4:=h3.go b4;have d:=a.trans (b4.mono a.size);replace ab:=(r3.below b4 r3.lt).cellv (i:=1) rfl;clear rR bR hR o4 b4 h3 a r3;have Hn:=Lv (UT g g _ m (by rw[La,Nb];omega) (by omega) V5 h4);have cf:=r4.cellv (i:=0) (v:=.func (.func 83) #[] #[]) rfl;go_wp2_with fail
       refine Hn.out.mono ?_;rintro e V6 ⟨rfl,h6,f6⟩;have s:=d.trans ((f6.below (Nat.le_refl _) (L9 h4.lt)).mono b.out.2);have ao:Hid (Wr V6 g g (L2++(p.body.take (k+1)).flatMap JV)/\Below w.heap.size w V6):=⟨by rw[af.out,ac.out];simpa using h6,s⟩;clear h4 d ab r4 cf Hn h6 s f6;go_wp2_with fail
       go_roundw
       case rel=>exact⟨k+1,by go_num,by omega,ao.out⟩
       case measure=>simp[intOf];omega
      ·rw[o];have ac:Hid (UF ⟨t,n⟩=zz n):=by show _=_;unfold UF;simp[o]
       go_wp2_with (refine Qs _ rfl ?_)
       refine Stop.to ?_;refine Qi rfl 122 rfl _ _ (Kx _) rfl ?_;intro R V4 hR rR bR;go_wp2_with (refine Qk _ _ _ rfl ?_)
       refine Stop.to ?_;refine Qh rfl 122 _ _ rfl R (ZG 2) rfl rfl 122 _ rR (by kernel_rfl) rfl (by simp[ZG,Value.oneCell']) ?_;intro V5 r4 o4;have b4:=(bR.mono hR).trans (o4.below hR);have h4:=h3.go b4;have d:=a.trans (b4.mono a.size);replace ab:=(r3.below b4 r3.lt).cellv (i:=1) rfl;clear rR bR hR o4 b4 h3 a r3;have Hn:=Lv (E4 g g _ n (by rw[La,Nb];omega) a0 V5 h4);have cf:=r4.cellv (i:=0) (v:=.func (.func 89) #[] #[]) rfl;go_wp2_with fail
       refine Hn.out.mono ?_;rintro e V6 ⟨rfl,h6,f6⟩;have s:=d.trans ((f6.below (Nat.le_refl _) (L9 h4.lt)).mono b.out.2);have ao:Hid (Wr V6 g g (L2++(p.body.take (k+1)).flatMap JV)/\Below w.heap.size w V6):=⟨by rw[af.out,ac.out];simpa using h6,s⟩;clear h4 d ab r4 cf Hn h6 s f6;go_wp2_with fail
       go_roundw
       case rel=>exact⟨k+1,by go_num,by omega,ao.out⟩
       case measure=>simp[intOf];omega
     ·obtain rfl:k=p.body.length:=by omega
      rw[Lm (Nat.le_refl _)]at hw
      have a1:L2++p.body.flatMap JV=JD p.pd:=by
       rw[a3.out,a2.out];unfold JD PgV.pd;simp only[a5.out,L0,L4]
      rw[a1]at hw;have HB:=Lv hb;have Hy:=Lv (ZZ g g _ wr hw);have ay:=HG.out;obtain⟨y,hy⟩:∃y,y=JD p.pd:=⟨_,rfl⟩;rw[<-hy]at Hy ay;subst ay;clear a1 hw hb hy aa hk am;go_wp2_with fail
      refine Hy.out.mono ?_;rintro e V9 ⟨rfl,rfl⟩;go_wp2_with fail
      go_ret2
      exact⟨rfl,HB.out⟩
 ·obtain⟨k,hk⟩:∃k,k=QP p:=⟨_,rfl⟩;obtain rfl:z=([],k):=Hz.out.trans (by unfold YT;rw[if_pos hc,hk]);rw[<-hk]at hc|-;have HB:=Lv j;clear Hz hk j;go_wp2_with fail
  go_ret2
  exact⟨rfl,HB.out⟩
end Go.Proofs.YtgnmkiafeplbpaaGreatDoor
namespace Go.Proofs.YtgnmkiafeplbpaaGreatDoor
open Go.RowKit Go.Deep
attribute [local go_sem] Oper.semAt_some
theorem Ahf (l:List Int):(l.flatMap zz).length<=10*l.length:=by
 induction l with
 |nil=>simp
 |cons x l ih=>rw[LF,La,Le];have:=Ahe x;omega
theorem Aj6 (ls:List (List Int))(h:∀y∈ls,y.length<=12)(k:Nat):((ls.take k).flatMap JO).length<=120*k:=by
 induction ls generalizing k with
 |nil=>simp
 |cons x l ih=>
  cases k with
  |zero=>simp
  |succ k=>
   rw[LY,LF,La];have b:=ih (λy a=>h y (List.mem_cons_of_mem _ a)) k;have c:=Ahf x;have d:=h x NG;unfold JO at*;omega
theorem VA (A:Option Addr)(cap:Nat)(l:List IntsV)(fuel:Int)(w:World)(hr:Rd w A (ZU l))(hl:l.length<=1000000)(hok:∀r∈l,r.ok w):
 Calls Tryz.prog 27 #[.slice A l.length cap,.int .i64 fuel] w λe w'=>e=.returned (.tuple #[.string ⟨(XB (l.map IntsV.l,fuel)).1.toArray⟩,.int .i64 (XB (l.map IntsV.l,fuel)).2])/\Below w.heap.size w w':=by
 obtain⟨z,hz⟩:∃z,z=XB (l.map IntsV.l,fuel):=⟨_,rfl⟩;have v:=Lv hz;rw[<-hz];have Hr:=Lv hr;have p:=Lv hok;have av:(l.length:Int)<=1000000:=by omega
 have b:=Lv (λae W h=>AcV ae fuel A cap l W h hl);clear hz hr hok hl;go_enter Tryz.func27,Tryz.ntmps27
 cases l with
 |nil=>
  obtain rfl:z=([],18):=v.out.trans (by unfold XB;rw[if_pos (.inl rfl)]);clear v b p;go_wp2_with fail
  go_ret2
  exact⟨rfl,Below.refl _ _⟩
 |cons r l=>
  obtain⟨ad,a5,ak⟩:=Hr.out 0 r.val rfl;have ab:(ad.add 0)=ad:=by unfold Addr.add;rw[if_pos rfl]
  rw[ab]at ak;unfold IntsV.val at ak;obtain⟨n,hn⟩:∃n,n=(r::l).length:=⟨_,rfl⟩;rw[<-hn];have bk:(0:Int)<(n:Int):=by rw[hn,Le];omega
  have bl:¬(n:Int)=0:=by omega
  have bb:r.l.length<=maxLen:=Lj (p.out r NG).len (p.out r NG).cap;have Hw:Hid (ZV ((r::l).map IntsV.l,fuel)=r.l.length):=rfl;obtain⟨d,an⟩:∃d,d=r::l:=⟨_,rfl⟩;rw[<-an]at v Hr p av b Hw hn;rw[a5]at b Hr|-;have Hn:=Lv hn;rw[<-hn]at b av;have ay:=Lv an;clear hn an ab;by_cases a1:12<r.l.length
  ·obtain rfl:z=([],18):=v.out.trans (by unfold XB;rw[if_pos (.inr (by rw[Hw.out];exact a1))]);have ar:(12:Int)<(r.l.length:Int):=by omega
   clear v b;go_wp2_with fail
   go_ret2
   exact⟨rfl,Below.refl _ _⟩
  ·have ar:¬(12:Int)<(r.l.length:Int):=by omega
   go_wp2_with fail
   refine(b.out (r.l.length:Int) w Hr.out).mono ?_;rintro e w1 ⟨rfl,b1⟩;by_cases hs:Zk (r.l.length:Int) (d.map IntsV.l) fuel=0
   ·have HG:Hid (z=(Jt (d.map IntsV.l,fuel),0)):=v.out.trans (Vg ⟨by rw[Hw.out];omega,by rw[Hw.out];exact hs⟩);have q:=Lv (X6 hs);rw[hs];have HB:=Lv b1;clear v b hs b1;go_wp2_with fail
    obtain⟨m,rfl⟩:∃m:Nat,fuel=(m:Int):=⟨fuel.toNat,by have:=q.out.2.2.1;omega⟩;have bj:(m:Int)<=10000:=q.out.2.2.2;have ba:n<=20:=by have:=q.out.1.2;rw[L7]at this;rw[Hn.out];exact this
    have bm:IntKind.u64.wrap (m:Int)=(m:Int):=by rw[IntKind.wrap_u64];omega
    have bn:IntKind.u64.wrap (n:Int)=(n:Int):=by rw[IntKind.wrap_u64];omega
    have bo:IntKind.u64.wrap (r.l.length:Int)=(r.l.length:Int):=by rw[IntKind.wrap_u64];omega
    have t:∀W,Below w.heap.size w W->W.cell? ad=some (.slice r.addr r.l.length r.cap):=λW h=>by
     obtain⟨a2,e2,h2⟩:=Hr.out.go h 0 r.val (by rw[ay.out];rfl);injection e2 with e2;subst e2;have ab:(ad.add 0)=ad:=by unfold Addr.add;rw[if_pos rfl]
     rw[ab]at h2;exact h2
    obtain⟨Vd,af⟩:∃Vd,Vd=w1.drew:=⟨_,rfl⟩;have hS:Below w.heap.size w Vd:=by rw[af];exact St.drew (S:=λW=>Below w.heap.size w W) HB.out
    refine wp_region_held (S:=λW=>Below w.heap.size w W) (by kernel_rfl) ?_;simp only[Ly,Le,Ll,Nat.reduceAdd,Ln,Lp,Lz,Lu,Lk];show wpAnyH _ _ _ _ _ _ _ _ w1.drew;rw[<-af];clear af HB ak;(refine tkH 1 (.int .i64 (m:Int)) rfl (Qd rfl (λW s=>by(go_simp))) ?_;simp only[Act.put,Qa,Qb,Qc]);(refine tkH 2 (.int .u64 (m:Int)) rfl (Qd rfl (λW s=>by(go_simp))) ?_;simp only[Act.put,Qa,Qb,Qc]);(refine tkH 4 (.slice (some ad) n cap) rfl (Qd rfl (λW s=>by(go_simp))) ?_;simp only[Act.put,Qa,Qb,Qc]);(refine tkH 5 (.int .i64 (n:Int)) rfl (Qd rfl (λW s=>by(go_simp))) ?_;simp only[Act.put,Qa,Qb,Qc]);(refine tkH 6 (.int .u64 (n:Int)) rfl (Qd rfl (λW s=>by(go_simp))) ?_;simp only[Act.put,Qa,Qb,Qc]);(refine tkH 8 (.slice (some ad) n cap) rfl (Qd rfl (λW s=>by(go_simp))) ?_;simp only[Act.put,Qa,Qb,Qc]);(refine tkH 9 (.pointer (some ad)) rfl (Qd rfl (λW s=>by((go_simp;try rfl)))) ?_;simp only[Act.put,Qa,Qb,Qc])
    (refine tkH 10 (.slice r.addr r.l.length r.cap) rfl (Qd rfl (λW s=>by((have c:=t W s;go_simp)))) ?_;simp only[Act.put,Qa,Qb,Qc]);(refine tkH 11 (.int .i64 (r.l.length:Int)) rfl (Qd rfl (λW s=>by(go_simp))) ?_;simp only[Act.put,Qa,Qb,Qc]);(refine tkH 12 (.int .u64 (r.l.length:Int)) rfl (Qd rfl (λW s=>by(go_simp))) ?_;simp only[Act.put,Qa,Qb,Qc]);(refine wpAnyH_all (rs:=[0]) (by kernel_rfl) (by simp) (λi hi=>?_);obtain rfl:i=0:=by simpa using hi);refine Qg rfl rfl (λK2 a=>?_);refine Qm 84 #[] (w1:=Vd) (by go_simp) ((JS Vd).mono ?_);rintro e W1 ⟨g,rfl,h1,b3,hg⟩;refine⟨_,rfl,?_⟩;refine a _ _ ?_;clear a K2;simp only[Act.put,Qa,Qb,Qc];have ac:w.heap.size<=g:=Lj hS.size hg;have ag:=hS.trans (b3.mono hS.size);refine⟨ag,?_⟩;clear hS b3 hg;have bi:=Qz m;have a9:=Qz n;(refine wpAnyH_all (rs:=[3]) (by kernel_rfl) (by simp) (λi hi=>?_);obtain rfl:i=3:=by simpa using hi);refine Qg rfl rfl (λK2 a=>?_);refine Qm 88 #[.pointer (some ⟨g,0,none⟩),.int .u64 (m:Int)] (w1:=W1) (by go_simp) ((Z2 g g _ m (by simp) (by omega) W1 h1).mono ?_);rintro e W2 ⟨rfl,h2,f9⟩;refine⟨_,rfl,?_⟩;refine a _ _ ?_;clear a K2;simp only[Act.put,Qa,Qb,Qc];have ah:=ag.trans ((f9.below (Nat.le_refl _) (L9 h1.lt)).mono ac);refine⟨ah,?_⟩;clear ag h1 f9;(refine wpAnyH_all (rs:=[7]) (by kernel_rfl) (by simp) (λi hi=>?_);obtain rfl:i=7:=by simpa using hi);refine Qg rfl rfl (λK2 a=>?_);refine Qm 88 #[.pointer (some ⟨g,0,none⟩),.int .u64 (n:Int)] (w1:=W2) (by go_simp) ((Z2 g g _ n (by simp;omega) (by omega) W2 h2).mono ?_);rintro e W3 ⟨rfl,h3,f9⟩;refine⟨_,rfl,?_⟩;refine a _ _ ?_;clear a K2;simp only[Act.put,Qa,Qb,Qc];have ai:=ah.trans ((f9.below (Nat.le_refl _) (L9 h2.lt)).mono ac);refine⟨ai,?_⟩;clear ah h2 f9;(refine wpAnyH_all (rs:=[13]) (by kernel_rfl) (by simp) (λi hi=>?_);obtain rfl:i=13:=by simpa using hi);refine Qg rfl rfl (λK2 a=>?_);refine Qm 88 #[.pointer (some ⟨g,0,none⟩),.int .u64 (r.l.length:Int)] (w1:=W3) (by go_simp) ((Z2 g g _ r.l.length (by simp;omega) (by omega) W3 h3).mono ?_);rintro e W4 ⟨rfl,h4,f9⟩;refine⟨_,rfl,?_⟩;refine a _ _ ?_;clear a K2;simp only[Act.put,Qa,Qb,Qc];have aj:=ai.trans ((f9.below (Nat.le_refl _) (L9 h3.lt)).mono ac);refine⟨aj,?_⟩;clear ai h3 f9;(refine tkH 14 (.pointer (some ⟨g,0,none⟩)) rfl (Qd rfl (λW s=>by(go_simp))) ?_;simp only[Act.put,Qa,Qb,Qc]);refine wpAnyH_done (by kernel_rfl) ?_ _;obtain⟨L,hL⟩:∃L,L=QC m++(QC n++QC r.l.length):=⟨_,rfl⟩;have bc:L.length<=30:=by rw[hL];simp only[La];have:=Qz r.l.length;omega
    have h5:Wr W4 g g L:=by rw[hL];simpa using h4
    have HL:=Lv hL;clear hL h4 t;go_wp2_with fail
    go_loopw [48] (λi W=>∃k:Nat,i=.int .i64 (k:Int)/\k<=n/\Wr W g g (L++((d.map IntsV.l).take k).flatMap JO)/\Below w.heap.size w W) (λi _=>n-(intOf i).toNat)
    case atStart=>exact⟨0,rfl,Nat.zero_le _,by simpa using h5,aj⟩
    case round=>
     obtain⟨k,rfl,hk,o,u⟩:=hrel;clear h5 aj;by_cases aw:k<n
     ·obtain⟨x,hx⟩:∃x,d[k]? =some x:=⟨_,Ld (by rw[<-Hn.out];exact aw)⟩;obtain⟨a2,e2,au⟩:=Hr.out.go u k x.val (by unfold ZU;rw[LR,hx];rfl);injection e2 with e2;subst e2;unfold IntsV.val at au;have ao:=Li hx;have Hx:=Lv (p.out x ao);have bp:x.l.length<=12:=by have:=q.out.2.1 x.l (LL.2 ⟨x,ao,rfl⟩);omega
      have a0:Hid (((d.map IntsV.l).take (k+1)).flatMap JO=((d.map IntsV.l).take k).flatMap JO++x.l.flatMap zz):=by show _=_;rw[L5,LR,hx];simp[JO]
      obtain⟨S,aa⟩:∃S,S=L++((d.map IntsV.l).take k).flatMap JO:=⟨_,rfl⟩
      have bd:S.length<=100000:=by
       have e1:=Aj6 (d.map IntsV.l) (λy hy=>by have:=q.out.2.1 y hy;show y.length<=12;omega) k;rw[aa,La];omega
      have HS:=Lv aa;rw[<-aa]at o;have HI:Hid (Wr wr g g S/\Below w.heap.size w wr):=⟨o,u⟩;have be:(k:Int)<(n:Int):=by omega
      have bh:(0:Int)<=(k:Int):=by omega
      clear hx ao aa o u;go_wp2_with fail
      go_loopw [54] (λi W=>∃j:Nat,i=.int .i64 (j:Int)/\j<=x.l.length/\Wr W g g (S++(x.l.take j).flatMap zz)/\Below w.heap.size w W) (λi _=>x.l.length-(intOf i).toNat)
      case atStart=>exact⟨0,rfl,Nat.zero_le _,by simpa using HI.out.1,HI.out.2⟩
      case round=>
       obtain⟨j,rfl,hj,o,u⟩:=hrel;clear au;have al:=Ahf (x.l.take j);rw[LH]at al;by_cases am:j<x.l.length
       ·obtain⟨y,hy⟩:∃y,x.l[j]? =some y:=⟨_,Ld am⟩;obtain⟨a3,a4,a7⟩:=Q4 (Hx.out.go u).reads hy;have a8:=Hx.out.all y (Li hy);have az:Hid ((x.l.take (j+1)).flatMap zz=(x.l.take j).flatMap zz++zz y):=by show _=_;rw[L5,hy];simp
        have aq:=Lv (E4 g g (S++(x.l.take j).flatMap zz) y (by rw[La];omega) a8 wr o);have bg:(j:Int)<(x.l.length:Int):=by omega
        have bf:(0:Int)<=(j:Int):=by omega
        rw[a4];clear hy al am;go_wp2_with fail
        refine aq.out.mono ?_;rintro e W6 ⟨rfl,h6,f6⟩;rw[L4, <-az.out]at h6;have a6:=u.trans ((f6.below (Nat.le_refl _) (L9 o.lt)).mono ac);clear o u f6 aq a7;go_wp2_with fail
        go_roundw
        case rel=>exact⟨j+1,by go_num,by omega,h6,a6⟩
        case measure=>simp[intOf];omega
       ·obtain rfl:j=x.l.length:=by omega
        rw[Lm (Nat.le_refl _),HS.out,L4, <-a0.out]at o;clear al am hj;go_wp2_with fail
        go_roundw
        case rel=>exact⟨k+1,by go_num,by omega,o,u⟩
        case measure=>simp[intOf];omega
     ·obtain rfl:k=n:=by omega
      have ax:L++((d.map IntsV.l).take k).flatMap JO=Jt (d.map IntsV.l,(m:Int)):=by
       rw[Lm (by rw[L7,Hn.out];exact Nat.le_refl _),HL.out];unfold Jt;rw[Hw.out];simp only[L0,L4,L7, <-Hn.out]
      rw[ax]at o;have HB:=Lv u;have Hy:=Lv (ZZ g g _ wr o);have ap:=HG.out;obtain⟨y,hy⟩:∃y,y=Jt (d.map IntsV.l,(m:Int)):=⟨_,rfl⟩;rw[<-hy]at Hy ap;subst ap;clear ax o u hy aw hk;go_wp2_with fail
      refine Hy.out.mono ?_;rintro e V9 ⟨rfl,rfl⟩;go_wp2_with fail
      go_ret2
      exact⟨rfl,HB.out⟩
   ·obtain⟨k,hk⟩:∃k,k=Zk (r.l.length:Int) (d.map IntsV.l) fuel:=⟨_,rfl⟩;obtain rfl:z=([],k):=v.out.trans (by unfold XB;rw[if_neg (λh=>by rcases h with h|h;(have e:(d.map IntsV.l).length=n:=by rw[L7,Hn.out]);(have h9:(d.map IntsV.l).length=0:=h;omega);(rw[Hw.out]at h;omega)),Hw.out,if_pos hs,hk]);rw[<-hk]at hs|-;have HB:=Lv b1;clear v b hk b1;go_wp2_with fail
    go_ret2
    exact⟨rfl,HB.out⟩
end Go.Proofs.YtgnmkiafeplbpaaGreatDoor
namespace Go.Proofs.YtgnmkiafeplbpaaGreatDoor
open Go.RowKit Go.Deep
attribute [local go_sem] Oper.semAt_some
theorem J4{α:Type}(one:Rs->α×Rs)(r:Rs)(k:Nat):Zu (λ_=>true) one r (k+1)=((Zu (λ_=>true) one r k).1++[(one (Zu (λ_=>true) one r k).2).1],(one (Zu (λ_=>true) one r k).2).2):=by simp[Zu]
theorem K9{α:Type}(one:Rs->α×Rs)(r:Rs):∀k,(Zu (λ_=>true) one r k).1.length=k
 |0=>rfl
 |k+1=>by rw[J4,La,K9 one r k];rfl
theorem Ag4 (s:List UInt8)(one:Rs->Int×Rs)(h1:∀r,r.pl<=s.length->(one r).2.pl<=s.length)(r:Rs)(h:r.pl<=s.length):∀k,(Zu (λ_=>true) one r k).2.pl<=s.length
 |0=>h
 |k+1=>by rw[J4];exact h1 _ (Ag4 s one h1 r h k)
theorem RdEff.own{g B n size:Nat}{w a b:World}{e:TypeId}{v:Value}{xs:List Value}(h:RdEff g w a)(ho:a.ownsRow B e size v n xs)(hB:w.heap.size<=B)(hg:a.grownBy b v.ownBlock):RdEff g w b:=
 ⟨hg.os.trans h.os,hg.tape.trans h.tape,hg.output.trans h.output,Lj h.size hg.size,λk hk hne=>by
  have e1:=h.block k hk hne
  refine(hg.block k (Lg hk h.size) (λe=>?_)).trans e1
  obtain⟨A,cap,rfl,_,_,_,_,hlo⟩:=JM ho
  cases A with
  |none=>simp[Value.ownBlock]at e
  |some ad=>
   have e2:ad.block=k:=by simpa[Value.ownBlock]using e.symm
   have:=hlo ad rfl
   omega⟩
theorem Ad9 (g:Nat)(s:List UInt8)(r:Rs)(n:Nat)(hn:n<=1000)(hp:r.pl<=s.length)(hs:s.length<=900000)(w:World)(h:RdO w g s r):
 Calls Tryz.prog 182 #[.int .i64 (n:Int),.func (.func 161) #[.pointer (some ⟨g,0,none⟩)] #[]] w λe w'=>∃v,e=.returned v/\w'.ownsRow w.heap.size 3 1 v n (Qj (Zu (λ_=>true) (JH s) r n).1)/\RdO w' g s (Zu (λ_=>true) (JH s) r n).2/\RdEff g w w':=by
 have q:=Lv (Ag4 s (JH s) (λr h=>Vh h) r hp);have Hs:=Lv hs;have ag:(n:Int)<=1000:=by omega
 obtain⟨F,t⟩:∃F,F=Zu (λ_=>true) (JH s) r:=⟨_,rfl⟩;have HF:Hid (∀k,F (k+1)=((F k).1++[(JH s (F k).2).1],(JH s (F k).2).2)):=λk=>by rw[t];exact J4 _ _ _
 have ae:Hid (∀k,(F k).1.length=k):=λk=>by rw[t];exact K9 _ _ _
 have H0:Hid (F 0=([],r)):=by rw[t];rfl
 rw[<-t]at q|-;have HR:=Lv h;have Hg:Hid (g<w.heap.size):=h.lt;clear t hp hs h hn;go_enter Tryz.func182,Tryz.ntmps182
 go_wp2_with fail
 go_loopw [5,7] (λa i W=>∃k:Nat,i=.int .i64 (k:Int)/\k<=n/\W.ownsRow w.heap.size 3 1 a k (Qj (F k).1)/\RdO W g s (F k).2/\RdEff g w W) (λ_ i _=>n-(intOf i).toNat)
 case atStart=>exact⟨0,rfl,Nat.zero_le _,by rw[H0.out];exact World.ownsRow_nil _ _ _ _,by rw[H0.out];exact HR.out,RdEff.refl _ _⟩
 case round=>
  obtain⟨k,rfl,hk,ho,hr,he⟩:=hrel;by_cases ad:k<n
  ·have af:(k:Int)<(n:Int):=by omega
   have Hi:=Lv (Vm g s (F k).2 (q.out k) (by have:=Hs.out;omega) wr hr);go_wp2_with fail
   refine Hi.out.mono ?_;rintro e W2 ⟨rfl,ab,e2⟩;have aa:=Yi ho e2 Hg.out;have y:=he.trans e2;obtain⟨x,hx⟩:∃x,x=(JH s (F k).2).1:=⟨_,rfl⟩;rw[<-hx];have Hx:=Lv hx;clear Hi ho hr he e2 hx;go_wp2_with (refine QY _ _ _ rfl ?_)
   refine Stop.to ?_;refine Qw rfl 22 1 _ rfl 3 #[.int .i64 x] (λW=>by kernel_rfl) ?_;intro M W3 hM rM bM;have b3:=bM.mono hM;have j:=QU aa b3;have p:=ab.go b3;have o:=y.trans (.of_below b3);obtain⟨v8,W4,d,c,b, -⟩:=Zq (P:=Tryz.prog) 22 3 (.int .i64 0) 1 8 Tryz.underlying22 Ju rfl (by decide) (by decide) j o.size (Z6 (cs:=Qj [x]) (by simpa[Qj]using rM)) (m:=1) (cap:=1) rfl (λu hu=>by simp only[Qj,LL]at hu;obtain⟨_,_,rfl⟩:=hu;rfl) (by simp) (by omega);have ac:RdO W4 g s (JH s (F k).2).2:=Row.grown p b (QK j p (by decide));have z:=o.own j (Nat.le_refl _) b;have HN:Hid (W4.ownsRow w.heap.size 3 1 v8 (k+1) (Qj (F (k+1)).1)/\RdO W4 g s (F (k+1)).2/\RdEff g w W4):=⟨by rw[HF.out, <-Hx.out];simpa[Qj]using c,by rw[HF.out];exact ac,z⟩;have l:=Lv d;clear aa ab y hM rM bM b3 j p o d c b ac z;refine Zc rfl _ (QF rfl l.out) ?_;go_wp2_with fail
   go_roundw
   case rel=>exact⟨k+1,by go_num,by omega,HN.out⟩
   case measure=>simp[intOf];omega
  ·obtain rfl:k=n:=by omega
   have HN:=Lv (And.intro ho (And.intro hr he));clear ad hk ho hr he;go_wp2_with fail
   go_ret
   exact⟨_,rfl,HN.out⟩
end Go.Proofs.YtgnmkiafeplbpaaGreatDoor
