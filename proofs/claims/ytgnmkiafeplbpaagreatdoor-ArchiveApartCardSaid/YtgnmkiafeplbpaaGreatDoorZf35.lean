/- Lemmas for ArAll. -/
import Derived.Test.YtgnmkiafeplbpaaGreatDoorZf1
import Derived.Test.YtgnmkiafeplbpaaGreatDoorZf34
set_option linter.unusedVariables false
set_option linter.unusedSimpArgs false
set_option maxRecDepth 100000
set_option maxHeartbeats 16000000
namespace Go.Proofs.YtgnmkiafeplbpaaGreatDoor
open Go.RowKit Go.Deep
attribute [local go_sem] Oper.semAt_some
theorem AiA (w:World):(zeroValue 9).run Tryz.prog w=.ok (.string ⟨#[]⟩) w:=by kernel_rfl
theorem AcZ (w:World):(zeroValue 34).run Tryz.prog w=.ok (.int .i64 0) w:=by kernel_rfl
theorem Aec (l:List Sec)(b:Nat)(h:∀x∈l,(frL x).length<=b):(Qq l).length<=l.length*b:=by
 induction l with
 |nil=>simp[Qq]
 |cons x l ih=>
  have c:=ih λy a=>h y (List.mem_cons_of_mem _ a)
  have d:=h x NG;unfold Qq at*;rw[LF,La,Le,Nat.succ_mul];omega
theorem Aj8 (A:Option Addr)(cap:Nat)(l:List Sec)(hd:∀x∈l,x.d.length<=900000)(hn:l.length<=1000000)(w:World)(hr:Rd w A (Zy l)):
 Calls Tryz.prog 32 #[.slice A l.length cap] w λe w'=>e=.returned (.tuple #[.string ⟨(K8 l).1.toArray⟩,.int .i64 (K8 l).2])/\Below w.heap.size w w':=by
 have Hr:=Lv hr;have Hd:=Lv hd;have bo:(l.length:Int)<=1000000:=by omega
 obtain⟨z,hz⟩:∃z,z=K8 l:=⟨_,rfl⟩;have Hz:=Lv hz;have ap:=Lv (λW h=>EC A cap l W h hn);rw[<-hz];clear hr hd hz hn;have bn:∀(fn:Fn) (first cap:Array Value) (w:World),(Instr.makeFunc fn first cap).run Tryz.prog w=.ok (.func fn first cap) w:=λ_ _ _ _=>rfl
 go_enter_defers Tryz.func32,Tryz.ntmps32
 go_wp2_with (refine Qs _ rfl ?_)
 refine Stop.to ?_;refine Qi rfl 9 rfl _ _ (AiA _) rfl ?_;intro S w1 c rS bS;go_wp2_with (refine Qs _ rfl ?_)
 refine Stop.to ?_;refine Qi rfl 34 rfl _ _ (AcZ _) rfl ?_;intro E w2 hE rE bE;have af:=rS.below (bE.mono hE) rS.lt;have aa:Below w.heap.size w w2:=(bS.mono c).trans (bE.mono (Lj (bS.mono c).size hE));have g:Hid (w.heap.size<=S/\S<E):=⟨c,by have:=rS.lt;omega⟩;clear rS bS bE c hE;go_wp2_with fail
 refine(ap.out w2 (Hr.out.go aa)).mono ?_;rintro e w3 ⟨rfl,b3⟩;have ao:=af.below b3 af.lt;have an:=rE.below b3 rE.lt;have ai:=aa.trans (b3.mono aa.size);clear af rE aa b3;by_cases ho:Kk l=false
 ·obtain rfl:z=([],20):=Hz.out.trans (by unfold K8;rw[if_pos ho]);rw[ho];clear Hz;go_wp2_with fail
  refine(Kz 20 w3).mono ?_;rintro e w4 ⟨rfl,rfl⟩;go_wp2_with fail
  refine leaves_cons (f:=91) (args:=#[.pointer (some ⟨S,0,none⟩),.pointer (some ⟨E,0,none⟩)]) (by simp) (by simp[go_sem]) ?_;refine(AcN S E 20 0 (.string ⟨#[]⟩) [] w4 ao an).mono ?_;rintro e u' w9 ⟨rfl,rfl,r9,q9,aw⟩;refine⟨_,QN Tryz.results32 _ _ ⟨S,0,none⟩ ⟨E,0,none⟩ (.string ⟨#[]⟩) (.int .i64 20) rfl rfl ?_ ?_,?_⟩
  ·have c9:=r9.cellv (i:=0) (v:=.string ⟨#[]⟩) rfl;go_simp
  ·have c9:=q9.cellv (i:=0) (v:=.int .i64 20) rfl;go_simp
  exact⟨rfl,(ai.trans (aw.below g.out.1 (Lj g.out.1 (L9 g.out.2)) ai.size))⟩
 have a0:Kk l=true:=by simpa using ho
 rw[a0]
 have u:Hid (SecOk l/\l.length<=16):=by
  have h0:=a0;unfold Kk at h0;simp only[LK,decide_eq_true_eq]at h0;have ht:=Ye (Int.le_refl 0) h0.1;refine⟨⟨λx hx=>ht x hx,Hd.out,by omega,?_⟩,h0.2.2⟩;have bk:=Aec l 900020 (λx hx=>by have e1:=Hd.out x hx;rw[Ua];unfold ZD Zt;have e2:=Qz x.d.length;simp only[Le];omega);have bg:=h0.2.2;have:l.length*900020<=16*900020:=Nat.mul_le_mul_right _ bg;omega
 have ab:=Lv (λW h=>Aal A cap l u.out.1 u.out.2 W h);obtain⟨y,hy⟩:∃y,y=Zh l:=⟨_,rfl⟩
 have br:y.length<=700:=by
  rw[hy,Uy];unfold ZS;have e1:=Qz l.length;have e2:=Ack 7 l;have:=u.out.2;rw[La];omega
 obtain⟨q,hq⟩:∃q,q=(Qq l).length:=⟨_,rfl⟩
 have au:Hid (z=if 1048576<7+q+y.length then([],4)else(frMagic++(Qq l++y),0)):=by
  show _=_;rw[hq,hy,Hz.out];unfold K8;rw[if_neg ho]
 rw[<-hy]at ab;have bl:(⟨y.toArray⟩:ByteArray).size=y.length:=by simp[ByteArray.size]
 have bq:q<=1000000000:=by rw[hq];exact u.out.1.sum
 have Hq:=Lv hq;clear Hz ap ho a0 hy hq;go_wp2_with fail
 refine(KR 20 w3).mono ?_;rintro e w4 ⟨rfl,rfl⟩;go_wp2_with fail
 refine(ab.out w4 (Hr.out.go ai)).mono ?_;rintro e w5 ⟨rfl,b5⟩;have a4:=ao.below b5 ao.lt;have a2:=an.below b5 an.lt;have al:=ai.trans (b5.mono ai.size);clear ao an ai b5;go_wp2_with fail
 have bf:=Lv (Hr.out.go al);go_loopw [4,21] (λa i W=>∃k:Nat,i=.int .i64 (k:Int)/\k<=l.length/\a=.int .i64 ((7+y.length+(Qq (l.take k)).length:Nat):Int)/\Below w5.heap.size w5 W) (λ_ i _=>l.length-(intOf i).toNat)
 case atStart=>exact⟨0,rfl,Nat.zero_le _,by show Value.int .i64 (7+((y.length:Nat):Int))=_;simp[Qq],Below.refl _ _⟩
 case round=>
  obtain⟨k,rfl,hk,rfl,hb⟩:=hrel;by_cases ah:k<l.length
  ·obtain⟨x,hx⟩:∃x,l[k]? =some x:=⟨_,Ld ah⟩;obtain⟨ad,ay,aj⟩:=Yl (bf.out.go hb) hx;subst ay;have bh:(k:Int)<(l.length:Int):=by omega
   have bi:(0:Int)<=(k:Int):=by omega
   have ac:=Y9 hx;have ae:=Li hx;have a8:=Lv (λW=>Ul x W (u.out.1.ty _ ae) (u.out.1.dl _ ae));have ag:=J8 l (k+1);rw[<-Hq.out,ac]at ag;obtain⟨a,ha⟩:∃a,a=7+y.length+(Qq (l.take k)).length:=⟨_,rfl⟩;have a7:Hid (7+y.length+(Qq (l.take (k+1))).length=a+ZD x):=by show _=_;rw[ac];omega
   obtain⟨p,hp⟩:∃p,p=ZD x:=⟨_,rfl⟩;rw[<-hp]at a8 a7 ag;rw[<-ha];have bm:a+p<=1000001000:=by omega
   have Hb:=Lv hb;clear hx hb ah ac ae ha ag hp;go_wp2_with (first| (refine Qn rfl 48 _ rfl (ad.add (k*2)) rfl (QO x).toList _ aj Tryz.underlying48 rfl (by kernel_rfl) ?_)| (refine Qs _ rfl ?_))
   refine Stop.to ?_;refine Qi rfl 48 rfl _ _ (Ya _) rfl ?_;intro M V0 hM rM bM;go_wp2_with (refine Qk _ _ _ rfl ?_)
   refine Stop.to ?_;refine Qh rfl 48 _ _ rfl M (QO x) rfl rfl 48 _ rM (by kernel_rfl) rfl (by simp[QO,Value.oneCell']) ?_;intro V1 r1 o1;have az:=Hb.out.trans ((bM.mono (Lj Hb.out.size hM)).trans (o1.below (Lj Hb.out.size hM)));clear rM bM hM o1 aj;go_wp2_with (refine Qn rfl 48 _ rfl ⟨M,0,none⟩ rfl (QO x).toList _ (Vp r1) Tryz.underlying48 rfl (by kernel_rfl) ?_)
   refine(a8.out V1).mono ?_;rintro e V2 ⟨rfl,o⟩;have aa:=az.trans (o.mono az.size);clear r1 az o;go_wp2_with fail
   go_roundw
   case rel=>exact⟨k+1,by go_num,by omega,by rw[a7.out];simp,aa⟩
   case measure=>simp[intOf];omega
  ·obtain rfl:k=l.length:=by omega
   rw[Lm (Nat.le_refl _), <-Hq.out];have a5:=a4.below hb a4.lt;have a3:=a2.below hb a2.lt;have am:=al.trans (hb.mono al.size);clear ah hk hb a4 a2 al;by_cases h4:1048576<7+q+y.length
   ·obtain rfl:z=([],4):=au.out.trans (if_pos h4);have h5:¬((7+y.length+q:Nat):Int)<=1048576:=by omega
    go_wp2_with fail
    rw[decide_eq_false (by omega)];refine(Kz 4 wr).mono ?_;rintro e w7 ⟨rfl,rfl⟩;go_wp2_with fail
    refine leaves_cons (f:=91) (args:=#[.pointer (some ⟨S,0,none⟩),.pointer (some ⟨E,0,none⟩)]) (by simp) (by simp[go_sem]) ?_;refine(AcN S E 4 0 (.string ⟨#[]⟩) [] w7 a5 a3).mono ?_;rintro e u' w9 ⟨rfl,rfl,r9,q9,aw⟩;refine⟨_,QN Tryz.results32 _ _ ⟨S,0,none⟩ ⟨E,0,none⟩ (.string ⟨#[]⟩) (.int .i64 4) rfl rfl ?_ ?_,?_⟩
    ·have c9:=r9.cellv (i:=0) (v:=.string ⟨#[]⟩) rfl;go_simp
    ·have c9:=q9.cellv (i:=0) (v:=.int .i64 4) rfl;go_simp
    exact⟨rfl,(am.trans (aw.below g.out.1 (Lj g.out.1 (L9 g.out.2)) am.size))⟩
   ·obtain rfl:z=(frMagic++(Qq l++y),0):=au.out.trans (if_neg h4);have h5:((7+y.length+q:Nat):Int)<=1048576:=by omega
    go_wp2_with fail
    rw[decide_eq_true (by omega)];refine(KR 4 wr).mono ?_;rintro e w7 ⟨rfl,rfl⟩;have bp:7+q+y.length<=1048576:=by omega
    clear h4 h5;go_wp2_with (refine Qk _ _ _ rfl ?_)
    refine Stop.to ?_;refine Qt rfl 9 _ _ rfl S 0 rfl _ rfl [.string ⟨#[77,85,84,65,82,67,1]⟩] rfl 9 #[.string ⟨#[]⟩] #[.string ⟨#[77,85,84,65,82,67,1]⟩] a5 (by kernel_rfl) (by simp) (by simp[Value.oneCell']) rfl ?_;intro w8 be o8;have bd:=a3.only o8 (by have:=g.out.2;omega);have a9:=Ql am o8 g.out.1;have HI:Hid (Row w8 S 9 #[.string ⟨(frMagic++Qq (l.take 0)).toArray⟩]/\Row w8 E 34 #[.int .i64 0]/\Below w.heap.size w w8):=⟨be,bd,a9⟩;clear a5 a3 am o8 be bd a9;go_wp2_with fail
    go_loopw [35] (λi W=>∃k:Nat,i=.int .i64 (k:Int)/\k<=l.length/\Row W S 9 #[.string ⟨(frMagic++Qq (l.take k)).toArray⟩]/\Row W E 34 #[.int .i64 0]/\Below w.heap.size w W) (λi _=>l.length-(intOf i).toNat)
    case atStart=>exact⟨0,rfl,Nat.zero_le _,HI.out⟩
    case round=>
     obtain⟨k,rfl,hk,rS,rE,hb⟩:=hrel;by_cases ah:k<l.length
     ·obtain⟨x,hx⟩:∃x,l[k]? =some x:=⟨_,Ld ah⟩;obtain⟨ad,ay,aj⟩:=Yl (Hr.out.go hb) hx;subst ay;have bh:(k:Int)<(l.length:Int):=by omega
      have bi:(0:Int)<=(k:Int):=by omega
      have ac:Qq (l.take (k+1))=Qq (l.take k)++frL x:=by unfold Qq;rw[L5,hx];simp
      have ae:=Li hx;have ag:=J8 l (k+1);rw[<-Hq.out,ac,La]at ag;obtain⟨t,ht⟩:∃t,t=frL x:=⟨_,rfl⟩
      have a6:Hid (AaK x=(t,0)):=by
       show _=_;have e1:=u.out.1.ty _ ae;have e2:=u.out.1.dl _ ae;unfold AaK;rw[if_neg (by omega),if_neg (by omega),ht]
      have aq:=Lv (λW=>AhJ x W (u.out.1.dl _ ae));rw[a6.out]at aq;rw[<-ht]at ac ag;obtain⟨s,hs⟩:∃s,s=frMagic++Qq (l.take k):=⟨_,rfl⟩;have a1:s.length=7+(Qq (l.take k)).length:=by rw[hs,La];rfl
      have bb:Hid (frMagic++Qq (l.take (k+1))=s++t):=by show _=_;rw[ac,hs];simp
      rw[<-hs]at rS;have bj:¬9223372036854775807<s.length+t.length:=by omega
      have ba:(⟨s.toArray⟩:ByteArray)++⟨t.toArray⟩=⟨(s++t).toArray⟩:=by apply ByteArray.ext;simp
      have HS:=Lv rS;have HE:=Lv rE;have Hb:=Lv hb;clear hx hb ah ac ae ht ag hs a1 rS rE a6;go_wp2_with (first| (refine Qn rfl 48 _ rfl (ad.add (k*2)) rfl (QO x).toList _ aj Tryz.underlying48 rfl (by kernel_rfl) ?_)| (refine Qs _ rfl ?_))
      refine Stop.to ?_;refine Qi rfl 48 rfl _ _ (Ya _) rfl ?_;intro M V0 hM rM bM;go_wp2_with (refine Qk _ _ _ rfl ?_)
      refine Stop.to ?_;refine Qh rfl 48 _ _ rfl M (QO x) rfl rfl 48 _ rM (by kernel_rfl) rfl (by simp[QO,Value.oneCell']) ?_;intro V1 r1 o1;have av:=(bM.mono hM).trans (o1.below hM);clear rM bM hM o1 aj;go_wp2_with (refine Qn rfl 48 _ rfl ⟨M,0,none⟩ rfl (QO x).toList _ (Vp r1) Tryz.underlying48 rfl (by kernel_rfl) ?_)
      refine(aq.out V1).mono ?_;rintro e V2 ⟨rfl,o⟩;have ak:=av.trans (o.mono av.size);clear r1 av o;go_wp2_with fail
      refine(KR 0 V2).mono ?_;rintro e V3 ⟨rfl,rfl⟩;have af:=HS.out.below ak HS.out.lt;have bc:=HE.out.below ak HE.out.lt;have aa:=Hb.out.trans (ak.mono Hb.out.size);have c2:=af.cellv (i:=0) (v:=.string ⟨s.toArray⟩) rfl;have f2:=af.free 0;have o3:=Qu V3 S 0 (.string ⟨(s++t).toArray⟩)
      have HF:Hid (Row (V3.setCell ⟨S,0,none⟩ (.string ⟨(s++t).toArray⟩)) S 9 #[.string ⟨(s++t).toArray⟩]/\Row (V3.setCell ⟨S,0,none⟩ (.string ⟨(s++t).toArray⟩)) E 34 #[.int .i64 0]/\Below w.heap.size w (V3.setCell ⟨S,0,none⟩ (.string ⟨(s++t).toArray⟩))):=
       ⟨af.set 0 _,bc.only o3 (by have:=g.out.2;omega),Ql aa o3 g.out.1⟩
      clear HS HE Hb ak af bc aa o3;go_wp2_with fail
      go_roundw
      case rel=>exact⟨k+1,by go_num,by omega,by rw[bb.out];exact HF.out⟩
      case measure=>simp[intOf];omega
     ·obtain rfl:k=l.length:=by omega
      rw[Lm (Nat.le_refl _)]at rS;clear ah hk HI;obtain⟨s,hs⟩:∃s,s=frMagic++Qq l:=⟨_,rfl⟩;have a1:s.length=7+q:=by rw[hs,La,Hq.out];rfl
      have ar:Hid (frMagic++(Qq l++y)=s++y):=by show _=_;rw[hs];simp
      rw[<-hs]at rS;have bj:¬9223372036854775807<s.length+y.length:=by omega
      have ba:(⟨s.toArray⟩:ByteArray)++⟨y.toArray⟩=⟨(s++y).toArray⟩:=by apply ByteArray.ext;simp
      clear hs a1 au;go_wp2_with fail
      refine J2 (last:=4) (S:=λ_=>True) (by kernel_rfl) ?_;simp only[Ly,Le,Ll,Nat.reduceAdd,Ln,Lp,Lz,Lu,Lk];obtain⟨Vd,ax⟩:∃Vd,Vd=wr.drew:=⟨_,rfl⟩;have c:Row Vd S 9 #[.string ⟨s.toArray⟩]/\Row Vd E 34 #[.int .i64 0]/\Below w.heap.size w Vd:=by rw[ax];exact St.drew (S:=λW=>Row W S 9 #[.string ⟨s.toArray⟩]/\Row W E 34 #[.int .i64 0]/\Below w.heap.size w W) ⟨rS,rE,hb⟩
      rw[<-ax];clear ax rS rE hb;refine Qp (rs:=[0,1]) (by kernel_rfl) (by simp) (λi m=>?_);rcases (by simpa using m:i=0\/i=1)with rfl|rfl
      ·have c4:=c.1.cellv (i:=0) (v:=.string ⟨s.toArray⟩) rfl;refine Qg rfl rfl (λj b=>?_);unfold Oper.wp;go_simp
       refine b _ _ ?_;clear b j;simp only[Qa,Qb,Qc];refine⟨λ_=>trivial,?_⟩;clear c4;(refine Qp (rs:=[1]) (by kernel_rfl) (by simp) (λi m=>?_);obtain rfl:i=1:=by simpa using m);refine Qg rfl rfl (λj b=>?_);unfold Oper.wp;go_simp
       refine b _ _ ?_;clear b j;simp only[Qa,Qb,Qc];refine⟨λ_=>trivial,?_⟩;(refine Qp (rs:=[2]) (by kernel_rfl) (by simp) (λi m=>?_);obtain rfl:i=2:=by simpa using m);refine Qg rfl rfl (λj b=>?_);refine Qm 77 #[.slice A l.length cap] (w1:=_) (by go_simp;try rfl) ((ab.out _ (Hr.out.go c.2.2)).mono ?_)
       rintro e W2 ⟨rfl,o⟩;refine⟨_,rfl,?_⟩;refine b _ _ ?_;clear b j;simp only[Act.put,Qa,Qb,Qc];replace c:Row W2 S 9 #[.string ⟨s.toArray⟩]/\Row W2 E 34 #[.int .i64 0]/\Below w.heap.size w W2:=⟨c.1.below o c.1.lt,c.2.1.below o c.2.1.lt,c.2.2.trans (o.mono c.2.2.size)⟩;refine⟨λ_=>trivial,?_⟩;clear o;(refine Qp (rs:=[3]) (by kernel_rfl) (by simp) (λi m=>?_);obtain rfl:i=3:=by simpa using m);refine Qg rfl rfl (λj b=>?_);unfold Oper.wp;go_simp
       refine b _ _ ?_;clear b j;simp only[Qa,Qb,Qc];refine⟨λ_=>trivial,?_⟩;(refine Qp (rs:=[4]) (by kernel_rfl) (by simp) (λi m=>?_);obtain rfl:i=4:=by simpa using m);refine Qg rfl rfl (λj b=>?_);unfold Oper.wp;have c4:=c.1.cellv (i:=0) (v:=.string ⟨s.toArray⟩) rfl;have f4:=c.1.free 0;go_simp
       refine b _ _ ?_;clear b j c4 f4;simp only[Qa,Qb,Qc];refine⟨λ_=>trivial,?_⟩;have n:=Qu W2 S 0 (.string ⟨(s++y).toArray⟩);replace c:=And.intro (c.1.set 0 (.string ⟨(s++y).toArray⟩)) (And.intro (c.2.1.only n (by have:=g.out.2;omega)) (Ql c.2.2 n g.out.1));clear n;(refine Qp (rs:=[5]) (by kernel_rfl) (by simp) (λi m=>?_);obtain rfl:i=5:=by simpa using m);refine Qg rfl rfl (λj b=>?_);unfold Oper.wp;have c4:=c.2.1.cellv (i:=0) (v:=.int .i64 0) rfl;have f4:=c.2.1.free 0;go_simp
       refine b _ _ ?_;clear b j c4 f4;simp only[Qa,Qb,Qc];refine⟨λ_=>trivial,?_⟩;have n:=Qu (W2.setCell ⟨S,0,none⟩ (.string ⟨(s++y).toArray⟩)) E 0 (.int .i64 0);replace c:=And.intro (c.1.only n (by have:=g.out.2;omega)) (And.intro (c.2.1.set 0 (.int .i64 0)) (Ql c.2.2 n (Lj g.out.1 (L9 g.out.2))));clear n;refine Zv (by kernel_rfl) ?_ _;go_wp2_with fail
       refine leaves_cons (f:=91) (args:=#[.pointer (some ⟨S,0,none⟩),.pointer (some ⟨E,0,none⟩)]) (by simp) (by simp[go_sem]) ?_;refine(Abn S E _).mono ?_;rintro e u' w9 ⟨rfl,rfl,rfl⟩;rw[ar.out];refine⟨_,QN Tryz.results32 _ _ ⟨S,0,none⟩ ⟨E,0,none⟩ (.string ⟨(s++y).toArray⟩) (.int .i64 0) rfl rfl ?_ ?_,?_⟩
       ·have c9:=c.1.cellv (i:=0) (v:=.string ⟨(s++y).toArray⟩) rfl;go_simp
       ·have c9:=c.2.1.cellv (i:=0) (v:=.int .i64 0) rfl;go_simp
       exact⟨rfl,c.2.2⟩
      ·refine Qg rfl rfl (λj b=>?_);unfold Oper.wp;go_simp
       refine b _ _ ?_;clear b j;simp only[Qa,Qb,Qc];refine⟨λ_=>trivial,?_⟩;refine Qp (rs:=[0,2]) (by kernel_rfl) (by simp) (λi m=>?_);rcases (by simpa using m:i=0\/i=2)with rfl|rfl
       ·have c4:=c.1.cellv (i:=0) (v:=.string ⟨s.toArray⟩) rfl;refine Qg rfl rfl (λj b=>?_);unfold Oper.wp;go_simp
        refine b _ _ ?_;clear b j;simp only[Qa,Qb,Qc];refine⟨λ_=>trivial,?_⟩;clear c4;(refine Qp (rs:=[2]) (by kernel_rfl) (by simp) (λi m=>?_);obtain rfl:i=2:=by simpa using m);refine Qg rfl rfl (λj b=>?_);refine Qm 77 #[.slice A l.length cap] (w1:=_) (by go_simp;try rfl) ((ab.out _ (Hr.out.go c.2.2)).mono ?_)
        rintro e W2 ⟨rfl,o⟩;refine⟨_,rfl,?_⟩;refine b _ _ ?_;clear b j;simp only[Act.put,Qa,Qb,Qc];replace c:Row W2 S 9 #[.string ⟨s.toArray⟩]/\Row W2 E 34 #[.int .i64 0]/\Below w.heap.size w W2:=⟨c.1.below o c.1.lt,c.2.1.below o c.2.1.lt,c.2.2.trans (o.mono c.2.2.size)⟩;refine⟨λ_=>trivial,?_⟩;clear o;(refine Qp (rs:=[3]) (by kernel_rfl) (by simp) (λi m=>?_);obtain rfl:i=3:=by simpa using m);refine Qg rfl rfl (λj b=>?_);unfold Oper.wp;go_simp
        refine b _ _ ?_;clear b j;simp only[Qa,Qb,Qc];refine⟨λ_=>trivial,?_⟩;(refine Qp (rs:=[4]) (by kernel_rfl) (by simp) (λi m=>?_);obtain rfl:i=4:=by simpa using m);refine Qg rfl rfl (λj b=>?_);unfold Oper.wp;have c4:=c.1.cellv (i:=0) (v:=.string ⟨s.toArray⟩) rfl;have f4:=c.1.free 0;go_simp
        refine b _ _ ?_;clear b j c4 f4;simp only[Qa,Qb,Qc];refine⟨λ_=>trivial,?_⟩;have n:=Qu W2 S 0 (.string ⟨(s++y).toArray⟩);replace c:=And.intro (c.1.set 0 (.string ⟨(s++y).toArray⟩)) (And.intro (c.2.1.only n (by have:=g.out.2;omega)) (Ql c.2.2 n g.out.1));clear n;(refine Qp (rs:=[5]) (by kernel_rfl) (by simp) (λi m=>?_);obtain rfl:i=5:=by simpa using m);refine Qg rfl rfl (λj b=>?_);unfold Oper.wp;have c4:=c.2.1.cellv (i:=0) (v:=.int .i64 0) rfl;have f4:=c.2.1.free 0;go_simp
        refine b _ _ ?_;clear b j c4 f4;simp only[Qa,Qb,Qc];refine⟨λ_=>trivial,?_⟩;have n:=Qu (W2.setCell ⟨S,0,none⟩ (.string ⟨(s++y).toArray⟩)) E 0 (.int .i64 0);replace c:=And.intro (c.1.only n (by have:=g.out.2;omega)) (And.intro (c.2.1.set 0 (.int .i64 0)) (Ql c.2.2 n (Lj g.out.1 (L9 g.out.2))));clear n;refine Zv (by kernel_rfl) ?_ _;go_wp2_with fail
        refine leaves_cons (f:=91) (args:=#[.pointer (some ⟨S,0,none⟩),.pointer (some ⟨E,0,none⟩)]) (by simp) (by simp[go_sem]) ?_;refine(Abn S E _).mono ?_;rintro e u' w9 ⟨rfl,rfl,rfl⟩;rw[ar.out];refine⟨_,QN Tryz.results32 _ _ ⟨S,0,none⟩ ⟨E,0,none⟩ (.string ⟨(s++y).toArray⟩) (.int .i64 0) rfl rfl ?_ ?_,?_⟩
        ·have c9:=c.1.cellv (i:=0) (v:=.string ⟨(s++y).toArray⟩) rfl;go_simp
        ·have c9:=c.2.1.cellv (i:=0) (v:=.int .i64 0) rfl;go_simp
        exact⟨rfl,c.2.2⟩
       ·refine Qg rfl rfl (λj b=>?_);refine Qm 77 #[.slice A l.length cap] (w1:=_) (by go_simp;try rfl) ((ab.out _ (Hr.out.go c.2.2)).mono ?_)
        rintro e W2 ⟨rfl,o⟩;refine⟨_,rfl,?_⟩;refine b _ _ ?_;clear b j;simp only[Act.put,Qa,Qb,Qc];replace c:Row W2 S 9 #[.string ⟨s.toArray⟩]/\Row W2 E 34 #[.int .i64 0]/\Below w.heap.size w W2:=⟨c.1.below o c.1.lt,c.2.1.below o c.2.1.lt,c.2.2.trans (o.mono c.2.2.size)⟩;refine⟨λ_=>trivial,?_⟩;clear o;(refine Qp (rs:=[0]) (by kernel_rfl) (by simp) (λi m=>?_);obtain rfl:i=0:=by simpa using m);have c4:=c.1.cellv (i:=0) (v:=.string ⟨s.toArray⟩) rfl;refine Qg rfl rfl (λj b=>?_);unfold Oper.wp;go_simp
        refine b _ _ ?_;clear b j;simp only[Qa,Qb,Qc];refine⟨λ_=>trivial,?_⟩;clear c4;(refine Qp (rs:=[3]) (by kernel_rfl) (by simp) (λi m=>?_);obtain rfl:i=3:=by simpa using m);refine Qg rfl rfl (λj b=>?_);unfold Oper.wp;go_simp
        refine b _ _ ?_;clear b j;simp only[Qa,Qb,Qc];refine⟨λ_=>trivial,?_⟩;(refine Qp (rs:=[4]) (by kernel_rfl) (by simp) (λi m=>?_);obtain rfl:i=4:=by simpa using m);refine Qg rfl rfl (λj b=>?_);unfold Oper.wp;have c4:=c.1.cellv (i:=0) (v:=.string ⟨s.toArray⟩) rfl;have f4:=c.1.free 0;go_simp
        refine b _ _ ?_;clear b j c4 f4;simp only[Qa,Qb,Qc];refine⟨λ_=>trivial,?_⟩;have n:=Qu W2 S 0 (.string ⟨(s++y).toArray⟩);replace c:=And.intro (c.1.set 0 (.string ⟨(s++y).toArray⟩)) (And.intro (c.2.1.only n (by have:=g.out.2;omega)) (Ql c.2.2 n g.out.1));clear n;(refine Qp (rs:=[5]) (by kernel_rfl) (by simp) (λi m=>?_);obtain rfl:i=5:=by simpa using m);refine Qg rfl rfl (λj b=>?_);unfold Oper.wp;have c4:=c.2.1.cellv (i:=0) (v:=.int .i64 0) rfl;have f4:=c.2.1.free 0;go_simp
        refine b _ _ ?_;clear b j c4 f4;simp only[Qa,Qb,Qc];refine⟨λ_=>trivial,?_⟩;have n:=Qu (W2.setCell ⟨S,0,none⟩ (.string ⟨(s++y).toArray⟩)) E 0 (.int .i64 0);replace c:=And.intro (c.1.only n (by have:=g.out.2;omega)) (And.intro (c.2.1.set 0 (.int .i64 0)) (Ql c.2.2 n (Lj g.out.1 (L9 g.out.2))));clear n;refine Zv (by kernel_rfl) ?_ _;go_wp2_with fail
        refine leaves_cons (f:=91) (args:=#[.pointer (some ⟨S,0,none⟩),.pointer (some ⟨E,0,none⟩)]) (by simp) (by simp[go_sem]) ?_;refine(Abn S E _).mono ?_;rintro e u' w9 ⟨rfl,rfl,rfl⟩;rw[ar.out];refine⟨_,QN Tryz.results32 _ _ ⟨S,0,none⟩ ⟨E,0,none⟩ (.string ⟨(s++y).toArray⟩) (.int .i64 0) rfl rfl ?_ ?_,?_⟩
        ·have c9:=c.1.cellv (i:=0) (v:=.string ⟨(s++y).toArray⟩) rfl;go_simp
        ·have c9:=c.2.1.cellv (i:=0) (v:=.int .i64 0) rfl;go_simp
        exact⟨rfl,c.2.2⟩
end Go.Proofs.YtgnmkiafeplbpaaGreatDoor
