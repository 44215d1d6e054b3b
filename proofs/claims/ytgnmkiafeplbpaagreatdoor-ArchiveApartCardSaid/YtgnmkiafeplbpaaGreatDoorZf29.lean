/- Lemmas for ArAll. -/
import Derived.Test.YtgnmkiafeplbpaaGreatDoorZf28
import Derived.Test.YtgnmkiafeplbpaaGreatDoorZf10
import Derived.Test.YtgnmkiafeplbpaaGreatDoorZf1
import Derived.Test.YtgnmkiafeplbpaaGreatDoorZf22
set_option linter.unusedVariables false
set_option linter.unusedSimpArgs false
set_option maxRecDepth 100000
set_option maxHeartbeats 16000000
namespace Go.Proofs.YtgnmkiafeplbpaaGreatDoor
open Go.RowKit Go.Deep
def XI (t:Int):Int:=if t=1 then 2 else if t=2\/t=3\/t=4\/t=20\/t=21\/t=22 then 1 else 0
def UF (x:Nd):List UInt8:=if XI x.tag=2 then zz x.n else if XI x.tag=1 then QC x.n.toNat else []
def JV (x:Nd):List UInt8:=UInt8.ofNat x.tag.toNat::UF x
structure Pd where
 params:Int
 V:List Int
 body:List Nd
def Pd.pg (x:Pd):PgV:=⟨x.params,none,0,x.V,none,0,x.body⟩
def YA (t:Int):List UInt8:=[UInt8.ofNat t.toNat]
def JD (x:Pd):List UInt8:=QC x.params.toNat++(QC x.V.length++(x.V.flatMap YA++(QC x.body.length++x.body.flatMap JV)))
noncomputable def Ys (x:Pd):List UInt8×Int:=if QP x.pg≠0 then([],QP x.pg)else(JD x,0)
def Afb (x:Pd):Prop:=QP x.pg=0/\∀y∈x.body,InI y.n
theorem AjH{x:Nd}(h:¬Qy x<0):1<=x.tag/\x.tag<=26/\(XI x.tag≠2->0<=x.n/\x.n<=200/\(XI x.tag=0->x.n=0)):=by
 have b:1<=x.tag/\x.tag<=26:=by
  by_cases k:1<=x.tag/\x.tag<=26
  ·exact k
  ·exact absurd (VM (t:=x.tag) (n:=x.n) k) (λe=>h (by have:Qy x= -1:=e;omega))
 refine⟨b.1,b.2,λi=>?_⟩;have a:¬x.tag=1:=λe=>i (by unfold XI;rw[if_pos e])
 unfold Qy at h;rw[if_neg a]at h;by_cases d:x.n<0\/(QX x).1<x.n
 ·rw[if_pos d]at h;omega
 ·have g:(QX x).1<=200/\(XI x.tag=0->(QX x).1<=0):=by
    unfold QX XI;rw[if_neg a]
    repeat' split
    all_goals(refine⟨by dsimp only;omega,λh=>?_⟩;first|omega| (dsimp only;omega))
  obtain⟨j,c⟩:=g;refine⟨by omega,by omega,λe=>?_⟩;have:=c e;omega
theorem Aaa{n:Int}(h1:0<=n)(h2:n<=255):((UInt8.ofNat n.toNat).toNat:Int)=n:=by
 have e:(UInt8.ofNat n.toNat).toNat=n.toNat % 256:=by simp
 rw[e];omega
def U5 (s:List UInt8)(r:Rs):Nd×Rs:=
 let b:=QR s r
 if XI b.1=2 then(⟨b.1,(JH s b.2).1⟩,(JH s b.2).2)else if XI b.1=1 then(⟨b.1,(Qo s b.2 200).1⟩,(Qo s b.2 200).2)else(⟨b.1,0⟩,b.2)
theorem AjG{x:Nd}{s t:List UInt8}{pl:Nat}(ha:¬Qy x<0)(hi:InI x.n)(h:s.drop pl=JV x++t):U5 s ⟨pl,0⟩=(x,⟨pl+(JV x).length,0⟩):=by
 obtain⟨w,y,p⟩:=AjH ha;have i:s.drop pl=UInt8.ofNat x.tag.toNat::(UF x++t):=h;have j:=X2 i;have d:=Q0 (a:=[UInt8.ofNat x.tag.toNat]) (t:=UF x++t) i;have l:=Aaa (n:=x.tag) (by omega) (by omega);unfold U5;rw[j];dsimp only;rw[l];have q:pl+(JV x).length=pl+1+(UF x).length:=by simp only[JV,Le];omega
 rw[q];unfold UF at d|-;by_cases c:XI x.tag=2
 ·rw[if_pos c]at d|-;rw[if_pos c];have e:JH s ⟨pl+1,0⟩=_:=Uj (z:=0) d hi;rw[e]
 ·rw[if_neg c]at d|-;rw[if_neg c];obtain⟨m,v,o⟩:=p c;by_cases b:XI x.tag=1
  ·rw[if_pos b]at d|-;rw[if_pos b];obtain⟨k,g⟩:=LA m;rw[g,L0]at d;have e:Qo s ⟨pl+1,0⟩ 200=_:=(QV _ _ _).trans (Ze (z:=0) (most:=200) d (by omega) (by omega));rw[e,g,L0, <-g]
  ·rw[if_neg b];rw[if_neg b]
   have u:XI x.tag=0:=by
    unfold XI at b c|-;split
    ·rename_i h;rw[if_pos h]at c;exact absurd rfl c
    ·rename_i h;rw[if_neg h]at b;split
     ·rename_i k;rw[if_pos k]at b;exact absurd rfl b
     ·rfl
   rw[<-o u];rfl
def KH (s:List UInt8):Pd:=
 let p:=Qo s ⟨0,0⟩ 12
 let n:=Qo s p.2 12
 let V:=Zu (λ_=>true) (λr=>(((QR s r).1:Int),(QR s r).2)) n.2 n.1.toNat
 let m:=Qo s V.2 200
 ⟨p.1,V.1,(Zu (λr=>decide (ZB s r=5)) (U5 s) m.2 m.1.toNat).1⟩
theorem Yh{x:Pd}(h:Afb x):(0<=x.params/\x.params<=12)/\x.V.length<=12/\(∀t∈x.V,0<=t/\t<=9)/\x.body.length<=200/\∀y∈x.body,¬Qy y<0:=by
 obtain⟨t,b⟩:=checkP_ok.1 h.1;obtain⟨i,k,l,n⟩:=b.good.vars;have c:x.pg.params=x.params:=rfl;have d:x.pg.V=x.V:=rfl;rw[c]at i k;rw[d]at k l;refine⟨⟨i,by omega⟩,l,λu m=>?_,b.len,b.ar⟩;obtain⟨j,a⟩:=List.mem_iff_getElem?.1 m;obtain⟨g,a⟩:=Lf.1 a;have:=n j g;rw[c,d,LP,Ld g]at this;have e:Yr x.params j u=true:=by rw[<-a];exact this
 unfold Yr at e;have:=of_decide_eq_true e;omega
theorem AfJ{x:Pd}:(JD x).drop 0=QC x.params.toNat++(QC x.V.length++(x.V.flatMap YA++(QC x.body.length++(x.body.flatMap JV++[])))):=by simp[JD]
theorem YQ{x:Pd}(h:Afb x):KH (JD x)=x:=by
 obtain⟨⟨v,p1⟩,hV,g,hb,m⟩:=Yh h;have n:=h.2;clear h;have a:=AfJ (x:=x);obtain⟨s,o⟩:∃s,JD x=s:=⟨_,rfl⟩;rw[o]at a|-;clear o;obtain⟨pa,V,i⟩:=x;dsimp only at v p1 hV g hb m n a;obtain⟨p,rfl⟩:=LA v;rw[L0]at a;have eP:Qo s ⟨0,0⟩ 12=_:=(QV _ _ _).trans (Ze (z:=0) (most:=12) a (by omega) (by omega));have k:=Q0 a;have eN:Qo s ⟨0+(QC p).length,0⟩ 12=_:=(QV _ _ _).trans (Ze (z:=0) (most:=12) k (by omega) (by omega));have l:=Q0 k
 have eX:=Vu (c:=λ_=>true) (one:=λr=>(((QR s r).1:Int),(QR s r).2)) l λt q _ w d=>⟨rfl,by
  have e:=X2 (b:=UInt8.ofNat t.toNat) d
  rw[e,Aaa (g t q).1 (by have:=(g t q).2;omega)]
  rfl⟩
 have j:=Q0 l;have eM:Qo s ⟨0+(QC p).length+(QC V.length).length+(V.flatMap YA).length,0⟩ 200=_:=(QV _ _ _).trans (Ze (z:=0) (most:=200) j (by omega) (by omega));have hB:=Q0 j
 have eB:=Vu (c:=λr=>decide (ZB s r=5)) (one:=U5 s) hB λy u _ w d=>⟨by
  have:w<s.length:=(UV d).2
  simp[ZB,this],AjG (m y u) (n y u) d⟩
 unfold KH;dsimp only;rw[eP];dsimp only;rw[eN];dsimp only;rw[L0,eX];dsimp only;rw[eM];dsimp only;rw[L0,eB]
noncomputable def XR (s:List UInt8):Pd×Int:=XS JD Afb ⟨0,[],[]⟩ s
end Go.Proofs.YtgnmkiafeplbpaaGreatDoor
namespace Go.Proofs.YtgnmkiafeplbpaaGreatDoor
open Go.RowKit
def crS (c:Nat):Nat:=if c % 2=1 then(c / 2) ^^^ 3988292384 else c / 2
def crI (c:Nat):Nat->Nat
 |0=>c
 |k+1=>crS (crI c k)
def crN (c b:Nat):Nat:=crI (c ^^^ b) 8
def crF (c:Nat)(l:List UInt8):Nat:=l.foldl (λc b=>crN c b.toNat) c
theorem Ak0 (c:Nat):crF c []=c:=List.foldl_nil
theorem Ai1 (c:Nat)(b:UInt8)(l:List UInt8):crF c (b::l)=crF (crN c b.toNat) l:=List.foldl_cons ..
def crZ (s:List UInt8):Nat:=4294967295-crF 4294967295 s
def leL (n:Nat):Nat->List UInt8
 |0=>[]
 |k+1=>UInt8.ofNat (n % 256)::leL (n / 256) k
def Zn (s:List UInt8):List UInt8:=leL (crZ s) 4
def Aeh (s:List UInt8):Prop:=4<=s.length/\Zn (s.take (s.length-4))=s.drop (s.length-4)
def YN:List UInt8->Nat
 |[]=>0
 |b::l=>b.toNat+256*YN l
theorem AlV (a b:Nat):(a ^^^ b) % 2=(a % 2+b % 2) % 2:=by
 have h:=Nat.xor_mod_two_pow (a:=a) (b:=b) (n:=1);rw[show(2:Nat) ^ 1=2 from rfl]at h;rw[h];rcases Nt a with e|e<;>rcases Nt b with f|f<;>rw[e,f]<;>rfl
theorem Aky (a b:Nat):(a ^^^ b) / 2=(a / 2) ^^^ (b / 2):=by
 have h:=Nat.xor_div_two_pow (a:=a) (b:=b) (n:=1);rwa[show(2:Nat) ^ 1=2 from rfl]at h
theorem Anb (a b p:Nat):(a ^^^ p) ^^^ (b ^^^ p)=a ^^^ b:=by
 rw[Nat.xor_assoc,Nat.xor_comm b p, <-Nat.xor_assoc p p b,Nat.xor_self,Nat.zero_xor]
theorem Ak1 (a b:Nat):crS (a ^^^ b)=crS a ^^^ crS b:=by
 unfold crS;rw[AlV,Aky];rcases Nt a with e|e<;>rcases Nt b with f|f<;>rw[e,f]
 ·simp
 ·simp[Nat.xor_assoc]
 ·simp only[Nat.add_zero,Nat.one_mod,if_true,Nat.zero_ne_one,if_false];rw[Nat.xor_assoc,Nat.xor_comm (b / 2), <-Nat.xor_assoc]
 ·simp[Anb]
theorem Agw (a b:Nat):∀k,crI (a ^^^ b) k=crI a k ^^^ crI b k
 |0=>rfl
 |k+1=>by rw[crI,Agw a b k,Ak1];rfl
theorem Agv (c:Nat)(j:Nat):∀k,crI c (j+k)=crI (crI c j) k
 |0=>rfl
 |k+1=>by rw[<-Nn,crI,Agv c j k];rfl
theorem Ai3 (x:Nat):crS (2*x)=x:=by unfold crS;rw[if_neg (by omega)];omega
theorem Ab6 (x:Nat):∀k,crI (2 ^ k*x) k=x
 |0=>by simp[crI]
 |k+1=>by
  rw[N6 k 1,Agv]
  have e:2 ^ (1+k)*x=2*(2 ^ k*x):=by rw[Nat.pow_add,Nat.mul_assoc]
  rw[e]
  have:crI (2*(2 ^ k*x)) 1=2 ^ k*x:=Ai3 _
  rw[this,Ab6 x k]
theorem AiP{b x:Nat}(h:b<256):b+256*x=b ^^^ (256*x):=by
 have c:=Nat.xor_mod_two_pow (a:=b) (b:=256*x) (n:=8);have d:=Nat.xor_div_two_pow (a:=b) (b:=256*x) (n:=8);rw[show(2:Nat) ^ 8=256 from rfl]at c d;rw[LE h,Nat.mul_mod_right,Nat.xor_zero]at c;rw[Nat.div_eq_of_lt h,Nat.zero_xor,Nat.mul_div_cancel_left _ (by decide)]at d;have:=Nat.div_add_mod (b ^^^ (256*x)) 256;rw[c,d]at this;omega
theorem AgP (n:Nat):∀k,YN (leL n k)=n % 256 ^ k
 |0=>by simp[leL,YN,Nat.mod_one]
 |k+1=>by
  rw[leL,YN,AgP (n / 256) k]
  have e:(UInt8.ofNat (n % 256)).toNat=n % 256:=by simp
  rw[e,Nr,Nat.mul_comm (256 ^ k) 256,Nat.mod_mul]
theorem Xu (n:Nat):∀k,(leL n k).length=k
 |0=>rfl
 |k+1=>by rw[leL,Le,Xu (n / 256) k]
structure Sec where
 t:Int
 d:List UInt8
def frMagic:List UInt8:=[77,85,84,65,82,67,1]
def YG:List UInt8:=[69,78,68,46]
def Zt (x:Sec):List UInt8:=UInt8.ofNat x.t.toNat::QC x.d.length
def frL (x:Sec):List UInt8:=Zt x++(x.d++Zn (Zt x++x.d))
def ZD (x:Sec):Nat:=(Zt x).length+x.d.length+4
def AaJ:Nat->List Sec->List UInt8
 |_,[]=>[]
 |a,x::l=>QC x.t.toNat++(QC a++(QC (ZD x)++AaJ (a+ZD x) l))
def ZS (l:List Sec):List UInt8:=QC l.length++AaJ 7 l
def Qq (l:List Sec):List UInt8:=l.flatMap frL
def Zh (l:List Sec):List UInt8:=ZS l++(Zn (ZS l)++(leL (7+(Qq l).length) 4++YG))
def J9 (last:Int):List Sec->Bool
 |[]=>true
 |x::l=>decide (last<x.t/\x.t<=255) && J9 x.t l
def Kk (l:List Sec):Bool:=J9 0 l && decide (1<=l.length/\l.length<=16)
def K8 (l:List Sec):List UInt8×Int:=if Kk l=false then([],20)else if 1048576<7+(Qq l).length+(Zh l).length then([],4)else(frMagic++(Qq l++Zh l),0)
def KD:List UInt8->Option (Sec×List UInt8)
 |[]=>none
 |b::y=>if (QL y).1=0/\(QL y).2.1<=1048576/\(QL y).2.2+(QL y).2.1+4<=y.length/\Zn (b::y.take ((QL y).2.2+(QL y).2.1))=(y.drop ((QL y).2.2+(QL y).2.1)).take 4 then
  some (⟨(b.toNat:Int),(y.drop (QL y).2.2).take (QL y).2.1⟩,y.drop ((QL y).2.2+(QL y).2.1+4))else none
def K1:Nat->List UInt8->Option (List Sec)
 |0,x=>if x=[]then some []else none
 |k+1,x=>if x=[]then some []else match KD x with
  |none=>none
  |some r=>match K1 k r.2 with
   |none=>none
   |some l=>some (r.1::l)
def UY (s:List UInt8):Nat:=YN ((s.drop (s.length-8)).take 4)
def AaH (s:List UInt8):Option (List Sec):=K1 s.length ((s.take (UY s)).drop 7)
def Z8 (s:List UInt8):List Sec×Int:=if 1048576<s.length then([],4)else if ¬(15<=s.length/\s.take 7=frMagic/\s.drop (s.length-4)=YG)then([],7)else
 if UY s<7\/s.length-8<UY s then([],9)else match AaH s with
  |none=>([],8)
  |some l=>if Kk l=false then([],20)else if s.drop (UY s)=Zh l then(l,0)else([],9)
def UZ (x:Sec):Prop:=(0<=x.t/\x.t<=255)/\x.d.length<=1048576
theorem X7 (s:List UInt8):(Zn s).length=4:=Xu _ 4
theorem Ua (x:Sec):(frL x).length=ZD x:=by
 unfold frL ZD;rw[La,La,X7];omega
theorem Ajo{x:Sec}{g y:List UInt8}(hx:UZ x)(hg:g.length=x.d.length+4):KD (Zt x++(g++y))=if Zn (Zt x++g.take x.d.length)=g.drop x.d.length then some (⟨x.t,g.take x.d.length⟩,y)else none:=by
 obtain⟨⟨q,s⟩,p⟩:=hx;unfold Zt;rw[Lk,KD,U2 x.d.length (by omega) (g++y)];dsimp only;have a:(QC x.d.length++(g++y)).drop (QC x.d.length).length=g++y:=Nh rfl
 have i:(QC x.d.length++(g++y)).take ((QC x.d.length).length+x.d.length)=QC x.d.length++g.take x.d.length:=by
  rw[List.take_append,Lm (by omega),NI,Np (by omega)]
 have b:(QC x.d.length++(g++y)).drop ((QC x.d.length).length+x.d.length)=g.drop x.d.length++y:=by
  rw[<-Nf,a,List.drop_append_of_le_length (by omega)]
 have j:(QC x.d.length++(g++y)).drop ((QC x.d.length).length+x.d.length+4)=y:=by
  rw[<-Nf,b];exact Nh (by rw[LN];omega)
 have l:(g.drop x.d.length++y).take 4=g.drop x.d.length:=Ng (by rw[LN];omega);have m:(g++y).take x.d.length=g.take x.d.length:=Np (by omega);rw[a,i,b,j,l,m]
 have n:((UInt8.ofNat x.t.toNat).toNat:Int)=x.t:=by
  have e:(UInt8.ofNat x.t.toNat).toNat=x.t.toNat % 256:=by simp
  rw[e];omega
 rw[n];have o:(QC x.d.length).length+x.d.length+4<=(QC x.d.length++(g++y)).length:=by simp only[La];omega
 have c:(0=(0:Int)/\x.d.length<=1048576/\(QC x.d.length).length+x.d.length+4<=(QC x.d.length++(g++y)).length/\Zn (UInt8.ofNat x.t.toNat::(QC x.d.length++g.take x.d.length))=g.drop x.d.length)<->Zn (UInt8.ofNat x.t.toNat::QC x.d.length++g.take x.d.length)=g.drop x.d.length:=
  ⟨λh=>h.2.2.2,λh=>⟨rfl,p,o,h⟩⟩
 by_cases h:Zn (UInt8.ofNat x.t.toNat::QC x.d.length++g.take x.d.length)=g.drop x.d.length
 ·rw[if_pos (c.2 h),if_pos h]
 ·rw[if_neg (λk=>h (c.1 k)),if_neg h]
theorem Acl{x:Sec}(hx:UZ x)(y:List UInt8):KD (frL x++y)=some (x,y):=by
 have h:=Ajo (g:=x.d++Zn (Zt x++x.d)) (y:=y) hx (by rw[La,X7]);have a:(x.d++Zn (Zt x++x.d)).take x.d.length=x.d:=Ng rfl;have b:(x.d++Zn (Zt x++x.d)).drop x.d.length=Zn (Zt x++x.d):=Nh rfl;rw[a,b,if_pos rfl]at h;rw[frL,L4];exact h
theorem Aee{s y:List UInt8}{x:Sec}(h:KD s=some (x,y)):s=frL x++y/\UZ x:=by
 cases s with
 |nil=>cases h
 |cons b s=>
  rw[KD]at h;split at h
  ·rename_i q;obtain⟨g,i,v,j⟩:=q;obtain⟨w,o,p⟩:=Alj (t:=s) (n:=(QL s).2.1) (k:=(QL s).2.2) (by rw[<-g]);simp only[Option.some.injEq,Prod.mk.injEq]at h;obtain⟨rfl,rfl⟩:=h;have e:((s.drop (QL s).2.2).take (QL s).2.1).length=(QL s).2.1:=by rw[LH,LN];omega
   have l:(UInt8.ofNat ((b.toNat:Int)).toNat)=b:=by simp
   have u:Zt ⟨(b.toNat:Int),(s.drop (QL s).2.2).take (QL s).2.1⟩=b::QC (QL s).2.1:=by unfold Zt;dsimp only;rw[l,e]
   have d:(QC (QL s).2.1)=s.take (QL s).2.2:=by
    have:=congrArg (List.take (QL s).2.2) p;rw[Ng o.symm]at this;exact this.symm
   refine⟨?_,⟨by dsimp only;omega,by dsimp only;have:=b.toNat_lt;omega⟩,by dsimp only;rw[e];exact i⟩
   have m:b::s.take ((QL s).2.2+(QL s).2.1)=(b::QC (QL s).2.1)++(s.drop (QL s).2.2).take (QL s).2.1:=by
    rw[d,Lk,List.take_add]
   unfold frL;rw[u];dsimp only;rw[<-m,j];have a:s.drop ((QL s).2.2+(QL s).2.1+4)=(s.drop ((QL s).2.2+(QL s).2.1)).drop 4:=by rw[Nf]
   have c:s.drop ((QL s).2.2+(QL s).2.1)=(s.drop (QL s).2.2).drop (QL s).2.1:=by rw[Nf]
   rw[a,L4,L4,LC,c,LC,d,Lk,LC]
  ·cases h
theorem UB (x:Sec):0<(frL x).length:=by rw[Ua];unfold ZD;omega
theorem Aci (k:Nat):K1 k []=some []:=by cases k<;>simp[K1]
theorem Yd{k:Nat}{x:List UInt8}(h:x≠[]):K1 (k+1) x=match KD x with
 |none=>none
 |some r=>match K1 k r.2 with
  |none=>none
  |some l=>some (r.1::l):=by
 rw[K1,if_neg h]
theorem AfL (x:Sec)(y:List UInt8):frL x++y≠[]:=by
 intro e;have:=congrArg List.length e;have a:=UB x;simp only[La,Ll]at this;omega
theorem VW:∀{l:List Sec} {k:Nat},(∀x∈l,UZ x)->l.length<=k->K1 k (Qq l)=some l
 |[],k,_,_=>Aci k
 |x::l,0,_,h=>by simp at h
 |x::l,k+1,hm,h=>by
  have e:Qq (x::l)=frL x++Qq l:=by simp[Qq]
  rw[e,Yd (AfL _ _),Acl (hm x (by simp))]
  dsimp only
  rw[VW (l:=l) (λy hy=>hm y (by simp[hy])) (by simpa using h)]
theorem Aed:∀{k:Nat} {x:List UInt8} {l:List Sec},K1 k x=some l->x=Qq l/\∀y∈l,UZ y
 |0,x,l,h=>by
  rw[K1]at h
  split at h
  ·rename_i e
   injection h with h
   subst h e
   exact⟨rfl,λy hy=>by cases hy⟩
  ·cases h
 |k+1,x,l,h=>by
  by_cases e:x=[]
  ·subst e
   rw[Aci]at h
   injection h with h
   subst h
   exact⟨rfl,λy hy=>by cases hy⟩
  ·rw[Yd e]at h
   split at h
   ·cases h
   ·rename_i r hr
    split at h
    ·cases h
    ·rename_i m hm
     injection h with h
     subst h
     obtain⟨a,y⟩:=r
     obtain⟨h1,h2⟩:=Aee hr
     obtain⟨h3,h4⟩:=Aed (k:=k) hm
     dsimp only at h3|-
     refine⟨by rw[h1,h3];simp[Qq],λz hz=>?_⟩
     rcases L6.1 hz with rfl|hz
     ·exact h2
     ·exact h4 z hz
theorem Ach:∀{l:List Sec} {k:Nat} {y:List UInt8},(∀x∈l,UZ x)->y≠[]->KD y=none->K1 k (Qq l++y)=none
 |[],0,y,_,hy,_=>by show K1 0 y=none;rw[K1,if_neg hy]
 |[],k+1,y,_,hy,h=>by
  show K1 (k+1) y=none
  rw[Yd hy,h]
 |x::l,0,y,_,_,_=>by
  have e:Qq (x::l)++y=frL x++(Qq l++y):=by simp[Qq]
  rw[e,K1,if_neg (AfL _ _)]
 |x::l,k+1,y,hm,hy,h=>by
  have e:Qq (x::l)++y=frL x++(Qq l++y):=by simp[Qq]
  rw[e,Yd (AfL _ _),Acl (hm x (by simp))]
  dsimp only
  rw[Ach (l:=l) (λz hz=>hm z (by simp[hz])) hy h]
theorem Ye:∀{l:List Sec} {a:Int},0<=a->J9 a l=true->∀x∈l,0<=x.t/\x.t<=255
 |[],_,_,_,_,hx=>by cases hx
 |y::l,a,ha,h,x,hx=>by
  rw[J9,LK,decide_eq_true_eq]at h
  rcases L6.1 hx with rfl|hx
  ·omega
  ·exact Ye (l:=l) (a:=y.t) (by omega) h.2 x hx
theorem KQ{l:List Sec}{x:Sec}(h:x∈l):x.d.length<=(Qq l).length:=by
 induction l with
 |nil=>cases h
 |cons y l ih=>
  have e:(Qq (y::l)).length=(frL y).length+(Qq l).length:=by simp[Qq]
  rw[e];rcases L6.1 h with rfl|h
  ·rw[Ua];unfold ZD;omega
  ·have:=ih h;omega
theorem Yc (l:List Sec):l.length<=(Qq l).length:=by
 induction l with
 |nil=>simp
 |cons y l ih=>
  have e:(Qq (y::l)).length=(frL y).length+(Qq l).length:=by simp[Qq]
  have:=UB y;rw[e,Le];omega
theorem Uy (l:List Sec):(Zh l).length=(ZS l).length+12:=by
 unfold Zh;simp only[La,X7,Xu];rfl
theorem Agh{l:List Sec}{s:List UInt8}(h:K8 l=(s,0)):Kk l=true/\s=frMagic++(Qq l++Zh l)/\s.length<=1048576/\∀x∈l,UZ x:=by
 unfold K8 at h;by_cases a:Kk l=false
 ·rw[if_pos a]at h;injection h with _ h;cases h
 ·rw[if_neg a]at h;by_cases b:1048576<7+(Qq l).length+(Zh l).length
  ·rw[if_pos b]at h;injection h with _ h;cases h
  ·rw[if_neg b]at h;injection h with h _;have a:Kk l=true:=by simpa using a
   refine⟨a,h.symm,by rw[<-h];simp only[La];have:frMagic.length=7:=rfl;omega,λx c=>⟨?_,?_⟩⟩
   ·unfold Kk at a;rw[LK]at a;exact Ye (Int.le_refl 0) a.1 x c
   ·have:=KQ c;omega
theorem Alg{a:List UInt8}{n:Nat}(hn:n<4294967296):UY (a++(leL n 4++YG))=n/\(a++(leL n 4++YG)).drop ((a++(leL n 4++YG)).length-4)=YG:=by
 have b:(a++(leL n 4++YG)).length=a.length+8:=by simp only[La,Xu];rfl
 constructor
 ·unfold UY;rw[b,Nat.add_sub_cancel,Nh rfl,Ng (Xu n 4),AgP,show(256:Nat) ^ 4=4294967296 from rfl,LE hn]
 ·rw[b, <-L4];exact Nh (by rw[La,Xu];omega)
theorem AcF{l:List Sec}{s:List UInt8}(h:K8 l=(s,0)):Z8 s=(l,0):=by
 obtain⟨p,b,u,q⟩:=Agh h;have c:frMagic.length=7:=rfl;have v:=Uy l;have i:s.length=7+(Qq l).length+(Zh l).length:=by rw[b];simp only[La];omega
 have e:s=(frMagic++(Qq l++(ZS l++Zn (ZS l))))++(leL (7+(Qq l).length) 4++YG):=by rw[b,Zh];simp only[L4]
 obtain⟨d,g⟩:=Alg (a:=frMagic++(Qq l++(ZS l++Zn (ZS l)))) (n:=7+(Qq l).length) (by omega);rw[<-e]at d g;have j:s.take 7=frMagic:=by rw[b];exact Ng c
 have m:(s.take (7+(Qq l).length)).drop 7=Qq l:=by
  rw[b, <-L4,Ng (by rw[La,c]),Nh c]
 have o:s.drop (7+(Qq l).length)=Zh l:=by
  rw[b, <-L4];exact Nh (by rw[La,c])
 have t:AaH s=some l:=by
  unfold AaH;rw[d,m];exact VW q (by have:=Yc l;omega)
 unfold Z8;rw[if_neg (by omega),if_neg (λk=>k ⟨by omega,j,g⟩),d,if_neg (by omega),t];dsimp only;rw[if_neg (by rw[p];decide),o,if_pos rfl]
theorem AcO{l:List Sec}{s:List UInt8}(h:Z8 s=(l,0)):K8 l=(s,0):=by
 unfold Z8 at h;by_cases d:1048576<s.length
 ·rw[if_pos d]at h;injection h with _ h;cases h
 rw[if_neg d]at h;by_cases a:15<=s.length/\s.take 7=frMagic/\s.drop (s.length-4)=YG
 ·rw[if_neg (λk=>k a)]at h;by_cases g:UY s<7\/s.length-8<UY s
  ·rw[if_pos g]at h;injection h with _ h;cases h
  rw[if_neg g]at h;split at h
  ·injection h with _ h;cases h
  ·rename_i m n;by_cases b:Kk m=false
   ·rw[if_pos b]at h;injection h with _ h;cases h
   rw[if_neg b]at h;by_cases c:s.drop (UY s)=Zh m
   ·rw[if_pos c]at h;injection h with h _;subst h;obtain⟨j,p⟩:=Aed n
    have e:s=frMagic++(Qq m++Zh m):=by
     have i:s.take (UY s)=frMagic++Qq m:=by
      rw[<-j, <-a.2.1];have:s.take 7=(s.take (UY s)).take 7:=by rw[List.take_take,NE (by omega)]
      rw[this,LC]
     rw[<-c, <-L4, <-i,LC]
    have o:=congrArg List.length e;simp only[La]at o;have q:frMagic.length=7:=rfl;unfold K8;rw[if_neg b,if_neg (by omega), <-e]
   ·rw[if_neg c]at h;injection h with _ h;cases h
 ·rw[if_pos a]at h;injection h with _ h;cases h
end Go.Proofs.YtgnmkiafeplbpaaGreatDoor
