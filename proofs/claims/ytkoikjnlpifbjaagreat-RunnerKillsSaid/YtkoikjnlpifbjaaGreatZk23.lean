/- Lemmas for RunnerKillsP. -/
import Derived.Test.YtkoikjnlpifbjaaGreatZk5
import Derived.Test.YtkoikjnlpifbjaaGreatZk11
import Derived.Test.YtkoikjnlpifbjaaGreatZk22
import Derived.Test.YtkoikjnlpifbjaaGreatZk16
import Derived.Test.YtkoikjnlpifbjaaGreatZk1
set_option linter.unusedVariables false
set_option linter.unusedSimpArgs false
set_option maxRecDepth 100000
set_option maxHeartbeats 16000000
namespace Go.Proofs.YtkoikjnlpifbjaaGreat
open Go.RowKit
def ED (x:Nd)(q s:Nat)(op n:Int):Nat×Nd×Nat:=
 if op<=3 then(q,⟨n,x.n⟩,q+1)else if op=4 then(q,⟨x.tag,n⟩,q+1)else if op=5 then(q,⟨26,0⟩,q+s)else if op=6 then(q+1,⟨6,0⟩,q+1)else(q+1,⟨1,n⟩,q+s)
def VT (l:List Nd)(c:Nat×Nd×Nat):List Nd:=l.take c.1++(c.2.1::l.drop c.2.2)
def Jy (l:List Nd)(q:Nat)(k:Tr)(op n:Int):List Nd:=VT l (ED k.root q k.size op n)
def Ak4:List Tr->List Tr
 |[]=>[]
 |c::r=>.node ⟨6,0⟩ [c]::r
def chT (op n:Int):Tr->Tr
 | .node x ks=>if op<=3 then .node ⟨n,x.n⟩ ks else if op=4 then .node ⟨x.tag,n⟩ ks else if op=5 then .node ⟨26,0⟩ []else
  if op=6 then .node x (Ak4 ks)else .node x [.node ⟨1,n⟩ []]
mutual
def XL (f:Tr->Tr):List Int->Tr->Tr
 |[],t=>f t
 |i::π,.node x ks=>.node x (Yt f π i.toNat ks)
def Yt (f:Tr->Tr)(π:List Int):Nat->List Tr->List Tr
 |_,[]=>[]
 |0,t::ts=>XL f π t::ts
 |i+1,t::ts=>t::Yt f π i ts
end
theorem Aas (f:Tr->Tr)(π:List Int):∀(i:Nat) (ks:List Tr),(Yt f π i ks).length=ks.length
 |_,[]=>by simp[Yt]
 |0,t::ts=>by simp[Yt]
 |i+1,t::ts=>by simp[Yt,Aas f π i ts]
theorem AbG:∀(ts:List Tr) (p i:Nat) (r:Nat) (k:Tr),(Q1 p ts)[i]? =some r->ts[i]? =some k->∃a b:List Nd,QM ts=a++(k.flat++b)/\r=p+a.length/\∀(f:Tr->Tr) (π:List Int),QM (Yt f π i ts)=a++((XL f π k).flat++b)
 |[],_,_,_,_,h,_=>by simp[Q1]at h
 |t::ts,p,0,r,k,h1,h2=>by
  simp[Q1]at h1 h2
  subst h1 h2
  exact⟨[],QM ts,by simp[QM],by simp,λf π=>by simp[Yt,QM]⟩
 |t::ts,p,i+1,r,k,h1,h2=>by
  simp[Q1]at h1 h2
  obtain⟨a,b,e1,e2,e3⟩:=AbG ts (p+t.size) i r k h1 h2
  refine⟨t.flat++a,b,by rw[QM,e1,Ly],by rw[e2,Le];show p+t.flat.length+a.length=_;omega,λf π=>?_⟩
  rw[Yt,QM,e3,Ly]
theorem EM:∀(π:List Int) (q r:Nat) (t k:Tr),ZO π q t=some (r,k)->∃a b:List Nd,t.flat=a++(k.flat++b)/\r=q+a.length/\∀f:Tr->Tr,(XL f π t).flat=a++((f k).flat++b)
 |[],q,r,t,k,h=>by
  simp[ZO]at h
  obtain⟨rfl,rfl⟩:=h
  exact⟨[],[],by simp,by simp,λf=>by simp[XL]⟩
 |i::π,q,r,.node x ks,k,h=>by
  rw[ZO]at h
  split at h
  ·cases h
  ·split at h
   ·rename_i s u h1 h2
    obtain⟨a,b,e1,e2,e3⟩:=AbG ks (q+1) i.toNat s u h1 h2
    obtain⟨a2,b2,g1,g2,g3⟩:=EM π s r u k h
    refine⟨x::(a++a2),b2++b,by rw[Tr.flat,e1,g1];simp,by rw[g2,e2];simp;omega,λf=>?_⟩
    rw[XL,Tr.flat,e3,g3]
    simp
   ·cases h
theorem Ye{π:List Int}{i:Int}{q r:Nat}{x:Nd}{ks:List Tr}{k:Tr}(h:ZO (i::π) q (.node x ks)=some (r,k)):∃s u,(Q1 (q+1) ks)[i.toNat]? =some s/\ks[i.toNat]? =some u/\ZO π s u=some (r,k):=by
 rw[ZO]at h;split at h
 ·cases h
 ·split at h
  ·rename_i s u c d;exact⟨s,u,c,d,h⟩
  ·cases h
theorem Ad6 (f:Tr->Tr)(π:List Int):∀(ks:List Tr) (i j:Nat) (u:Tr),ks[i]? =some u->(Yt f π i ks)[j]? =if j=i then some (XL f π u)else ks[j]?
 |[],i,_,_,h=>by simp at h
 |t::ts,0,j,u,h=>by
  simp at h;subst h
  cases j with
  |zero=>simp[Yt]
  |succ j=>simp[Yt]
 |t::ts,i+1,j,u,h=>by
  simp at h
  cases j with
  |zero=>simp[Yt]
  |succ j=>simp[Yt,Ad6 f π ts i j u h]
theorem AbE{f:Tr->Tr}:∀{π:List Int} {q r:Nat} {t k:Tr},t.fits->ZO π q t=some (r,k)->(k.fits->(f k).fits)->(XL f π t).fits
 |[],q,r,t,k,ht,h,hf=>by
  simp[ZO]at h
  obtain⟨_,rfl⟩:=h
  rw[XL];exact hf ht
 |i::π,q,r,.node x ks,k,ht,h,hf=>by
  obtain⟨s,u,h1,h2,h3⟩:=Ye h
  cases ht with
  |mk _ _ ha hk=>
   rw[XL]
   refine .mk _ _ (by rw[Aas];exact ha) λc hc=>?_
   obtain⟨j,hj⟩:=List.mem_iff_getElem?.1 hc
   rw[Ad6 f π ks i.toNat j u h2]at hj
   split at hj
   ·injection hj with hj
    subst hj
    exact AbE (hk u (Lf h2)) h3 hf
   ·exact hk c (Lf hj)
theorem EL:∀{π:List Int} {q r:Nat} {t k:Tr},t.fits->ZO π q t=some (r,k)->k.fits
 |[],q,r,t,k,ht,h=>by simp[ZO]at h;obtain⟨_,rfl⟩:=h;exact ht
 |i::π,q,r,.node x ks,k,ht,h=>by
  obtain⟨s,u,h1,h2,h3⟩:=Ye h
  cases ht with
  |mk _ _ ha hk=>exact EL (hk u (Lf h2)) h3
theorem E1{V:List Int}{inn:Bool}{f:Tr->Tr}{π:List Int}:∀(ts:List Tr) (ws:List Int) (b:Bool) (i:Nat) (u:Tr),ts[i]? =some u->ofT V (XL f π u)=ofT V u->(XL f π u).root.tag=u.root.tag\/(¬(XL f π u).root.tag=20/\¬u.root.tag=20)->Zb V inn b (Yt f π i ts) ws=Zb V inn b ts ws
 |[],_,_,i,u,h,_,_=>by simp at h
 |t::ts,[],b,i,u,h,_,_=>by
  cases i<;>simp[Yt,Zb]
 |t::ts,w::ws,b,0,u,h,h1,h2=>by
  simp at h;subst h
  have e:((XL f π t).root.tag==20)=(t.root.tag==20):=by
   rcases h2 with h2|⟨h2,c⟩
   ·rw[h2]
   ·rw[LS,beq_iff_eq,beq_iff_eq];exact⟨λh=>absurd h h2,λh=>absurd h c⟩
  rw[Yt,Zb,Zb,h1,e]
 |t::ts,w::ws,b,i+1,u,h,h1,h2=>by
  simp at h
  rw[Yt,Zb,Zb,E1 ts ws false i u h h1 h2]
theorem Akv{V:List Int}{x:Nd}{n:Nat}(hx:isZ V x≠ -1)(h:(-1:Int)∈QY V x n):False:=by
 unfold QY at h
 repeat' split at h
 all_goals(try(simp at h;done))
 ·rename_i _ _ _ _ d
  have c:Ky V x.n=true:=by
   by_cases c:Ky V x.n=true
   ·exact c
   ·exfalso;apply hx;unfold isZ;rw[if_neg (by omega),if_neg (by omega),if_neg (by omega),if_neg (by omega),if_neg (by omega),if_neg (by omega),if_neg (by omega),if_neg (by omega),if_pos d,if_neg c]
  obtain⟨t,g,e⟩:=Yl c;rw[g]at h;simp at h;omega
theorem VA{V:List Int}:∀{π:List Int} {q r:Nat} {t k:Tr},ofT V t≠ -1->ZO π q t=some (r,k)->ofT V k≠ -1
 |[],q,r,t,k,ht,h=>by simp[ZO]at h;obtain⟨_,rfl⟩:=h;exact ht
 |i::π,q,r,.node x ks,k,ht,h=>by
  obtain⟨s,u,h1,h2,h3⟩:=Ye h
  obtain⟨_,g2,g3,g4⟩:=Xa ht
  have hl:i.toNat<(QY V x ks.length).length:=by rw[g3];exact(La.1 h2).1
  have:=XX g4 i.toNat u _ h2 (Lb hl)
  refine VA (t:=u) ?_ h3
  rw[this]
  intro e
  have hm:(-1:Int)∈QY V x ks.length:=by rw[<-e];exact List.getElem_mem hl
  exact Akv g2 hm
def Af2 (a b:Int):Prop:=a=b\/(¬a=20/\¬b=20)
theorem AbF{V:List Int}{f:Tr->Tr}:∀{π:List Int} {q r:Nat} {t k:Tr},ZO π q t=some (r,k)->ofT V (f k)=ofT V k->Af2 (f k).root.tag k.root.tag->ofT V (XL f π t)=ofT V t/\Af2 (XL f π t).root.tag t.root.tag
 |[],q,r,t,k,h,h1,h2=>by simp[ZO]at h;obtain⟨_,rfl⟩:=h;rw[XL];exact⟨h1,h2⟩
 |i::π,q,r,.node x ks,k,h,h1,h2=>by
  obtain⟨s,u,g1,g2,g3⟩:=Ye h
  obtain⟨e1,e2⟩:=AbF g3 h1 h2
  rw[XL]
  refine⟨?_,.inl rfl⟩
  rw[ofT,ofT,Aas,E1 ks _ _ i.toNat u g2 e1 e2]
theorem Tr.fits.len{x:Nd}{ks:List Tr}(h:(Tr.node x ks).fits):Qv x=(ks.length:Int):=by cases h;assumption
theorem Tr.fits.kids{x:Nd}{ks:List Tr}(h:(Tr.node x ks).fits):∀k∈ks,k.fits:=by cases h;assumption
theorem El{t n m a:Int}(h:Q9 ⟨t,n⟩=(m,a))(ht:¬t=1)(h0:0<=n)(h1:n<=m):Qv ⟨t,n⟩=a:=by
 unfold Qv;rw[if_neg ht,h,if_neg (by simp only;omega)]
theorem Ab5{t n:Int}(h:7<=t/\t<=19):Q9 ⟨t,n⟩=(0,2):=by
 unfold Q9;simp only;rw[if_neg (by omega),if_neg (by omega),if_neg (by omega),if_neg (by omega),if_neg (by omega),if_neg (by omega),if_neg (by omega),if_neg (by omega),if_neg (by omega),if_pos h]
theorem Ago{x:Nd}(h:7<=x.tag/\x.tag<=19)(ha:Qv x≠ -1):x.n=0:=by
 unfold Qv at ha;rw[if_neg (by omega),show Q9 x=(0,2)from Ab5 (t:=x.tag) (n:=x.n) h]at ha;by_cases c:x.n<0\/0<x.n
 ·rw[if_pos c]at ha;exact absurd rfl ha
 ·omega
theorem Vg{x y:Nd}{op n:Int}(h:isC x y op n=true):
 (op=1/\(7<=x.tag/\x.tag<=11)/\7<=n/\n<=11/\n≠x.tag)\/(op=2/\(12<=x.tag/\x.tag<=17)/\12<=n/\n<=17/\n≠x.tag)\/(op=3/\(18<=x.tag/\x.tag<=19)/\18<=n/\n<=19/\n≠x.tag)\/
 (op=4/\((x.tag=1/\n≠x.n)\/(x.tag=2/\n=wrap64 (1-x.n))))\/(op=5/\(x.tag=21\/x.tag=22\/x.tag=23\/x.tag=24\/x.tag=25)/\n=0)\/(op=6/\(x.tag=23\/x.tag=24)/\n=0)\/(op=7/\x.tag=25/\(n=0\/n=1)):=by
 unfold isC at h;by_cases e:op=1
 ·rw[if_pos e,decide_eq_true_eq]at h;exact .inl ⟨e,⟨h.1,h.2.1⟩,h.2.2.1,h.2.2.2.1,h.2.2.2.2⟩
 rw[if_neg e]at h;by_cases g:op=2
 ·rw[if_pos g,decide_eq_true_eq]at h;exact .inr (.inl ⟨g,⟨h.1,h.2.1⟩,h.2.2.1,h.2.2.2.1,h.2.2.2.2⟩)
 rw[if_neg g]at h;by_cases i:op=3
 ·rw[if_pos i,decide_eq_true_eq]at h;exact .inr (.inr (.inl ⟨i,⟨h.1,h.2.1⟩,h.2.2.1,h.2.2.2.1,h.2.2.2.2⟩))
 rw[if_neg i]at h;by_cases j:op=4
 ·rw[if_pos j,decide_eq_true_eq]at h;refine .inr (.inr (.inr (.inl ⟨j,?_⟩)));rcases h with⟨c,_,d⟩|⟨c,d⟩
  ·exact .inl ⟨c,d⟩
  ·exact .inr ⟨c,d⟩
 rw[if_neg j]at h;by_cases k:op=5
 ·rw[if_pos k,decide_eq_true_eq]at h;exact .inr (.inr (.inr (.inr (.inl ⟨k,h.1,h.2⟩))))
 rw[if_neg k]at h;by_cases l:op=6
 ·rw[if_pos l,decide_eq_true_eq]at h;exact .inr (.inr (.inr (.inr (.inr (.inl ⟨l,h.1,h.2⟩)))))
 rw[if_neg l]at h;by_cases m:op=7
 ·rw[if_pos m,decide_eq_true_eq]at h;exact .inr (.inr (.inr (.inr (.inr (.inr ⟨m,h.1,h.2.1⟩)))))
 rw[if_neg m]at h;cases h
theorem Aik{V:List Int}{x:Nd}(h:x.tag=21\/x.tag=22\/x.tag=23\/x.tag=24\/x.tag=25)(h2:isZ V x≠ -1):isZ V x=2:=by
 unfold isZ at h2|-;rw[if_neg (by omega),if_neg (by omega),if_neg (by omega),if_neg (by omega),if_neg (by omega),if_neg (by omega),if_neg (by omega),if_neg (by omega)]at h2|-;by_cases c:x.tag=21
 ·rw[if_pos c]at h2|-;split at h2
  ·rename_i e;rw[if_pos e]
  ·exact absurd rfl h2
 ·rw[if_neg c]at h2|-;by_cases d:x.tag=22
  ·rw[if_pos d]at h2|-;split at h2
   ·rename_i e;rw[if_pos e]
   ·exact absurd rfl h2
  ·rw[if_neg d]
theorem Acx (V:List Int){x:Nd}{n:Nat}(h:x.tag=23\/x.tag=24):∃r,QY V x n=1::r:=by
 unfold QY;rw[if_neg (by omega),if_neg (by omega),if_neg (by omega),if_neg (by omega),if_neg (by omega)];rcases h with h|h
 ·rw[if_pos h];exact⟨_,rfl⟩
 ·rw[if_neg (by omega),if_pos h];exact⟨_,rfl⟩
theorem UZ (V:List Int){x:Nd}{n:Nat}(h:x.tag=1\/x.tag=2\/x.tag=26):QY V x n=[]:=by
 unfold QY;rw[if_neg (by omega),if_neg (by omega),if_neg (by omega),if_neg (by omega),if_neg (by omega),if_neg (by omega),if_neg (by omega),if_pos (by omega)]
theorem Aei (V:List Int){x:Nd}{n:Nat}(h:x.tag=25):QY V x n=[0]:=by
 unfold QY;rw[if_pos (by omega)]
theorem Ai9 (V:List Int){x:Nd}{n:Nat}(h:x.tag=6):QY V x n=[1]:=by
 unfold QY;rw[if_neg (by omega),if_pos h]
theorem isZ_t{V:List Int}{x:Nd}:(x.tag=1->isZ V x=0)/\(x.tag=2->isZ V x=1)/\(x.tag=6->isZ V x=1)/\(x.tag=26->isZ V x=2)/\(7<=x.tag/\x.tag<=11->isZ V x=0)/\(12<=x.tag/\x.tag<=19->isZ V x=1):=by
 unfold isZ;refine⟨λh=>?_,λh=>?_,λh=>?_,λh=>?_,λh=>?_,λh=>?_⟩
 ·rw[if_pos h]
 ·rw[if_neg (by omega),if_pos h]
 ·rw[if_neg (by omega),if_neg (by omega),if_neg (by omega),if_neg (by omega),if_neg (by omega),if_pos h]
 ·rw[if_neg (by omega),if_neg (by omega),if_neg (by omega),if_neg (by omega),if_neg (by omega),if_neg (by omega),if_neg (by omega),if_neg (by omega),if_neg (by omega),if_neg (by omega)]
 ·rw[if_neg (by omega),if_neg (by omega),if_neg (by omega),if_neg (by omega),if_neg (by omega),if_neg (by omega),if_pos h]
 ·rw[if_neg (by omega),if_neg (by omega),if_neg (by omega),if_neg (by omega),if_neg (by omega),if_neg (by omega),if_neg (by omega),if_pos h]
theorem X3 (V:List Int){x:Nd}{n:Nat}:(7<=x.tag/\x.tag<=17->QY V x n=[0,0])/\(18<=x.tag/\x.tag<=19->QY V x n=[1,1]):=by
 unfold QY;refine⟨λh=>?_,λh=>?_⟩
 ·rw[if_neg (by omega),if_neg (by omega),if_pos (by omega)]
 ·rw[if_neg (by omega),if_neg (by omega),if_neg (by omega),if_pos (by omega)]
theorem EO{x:Nd}(h:¬x.tag=23)(h2:¬x.tag=24):ZH x=false:=by unfold ZH;simp[h,h2]
theorem Ajz{V:List Int}{k:Tr}{y:Nd}{op n:Int}(hk:k.fits)(ht:ofT V k≠ -1)(hc:isC k.root y op n=true)(hn:k.root.tag=2->k.root.n=0\/k.root.n=1):
 (chT op n k).fits/\ofT V (chT op n k)=ofT V k/\Af2 (chT op n k).root.tag k.root.tag:=by
 obtain⟨x,l⟩:=k;obtain⟨h1,h2,j,o⟩:=Xa ht;have p:=hk.len;have g:=hk.kids;have s:(Tr.node x l).root=x:=rfl;rw[s]at hc hn
 have hb:∀t:Int,(7<=x.tag/\x.tag<=19)->7<=t/\t<=19->(QY V x l.length=QY V ⟨t,x.n⟩ l.length)->isZ V x=isZ V ⟨t,x.n⟩->(Tr.node ⟨t,x.n⟩ l).fits/\ofT V (.node ⟨t,x.n⟩ l)=ofT V (.node x l)/\Af2 t x.tag:=by
  intro t z h7 i hi;have ac:=Ago z (by omega);have h2:Qv x=2:=El (t:=x.tag) (n:=x.n) (Ab5 z) (by omega) (by omega) (by omega);refine⟨.mk _ _ ?_ g,?_,.inr ⟨by omega,by omega⟩⟩
  ·rw[El (Ab5 h7) (by omega) (by omega) (by omega), <-p,h2]
  ·rw[ofT,ofT, <-i, <-hi,EO (x:=⟨t,x.n⟩) (by simp only;omega) (by simp only;omega),EO (x:=x) (by omega) (by omega)]
 rcases Vg hc with⟨rfl,z,h7,h8,_⟩|⟨rfl,z,h7,h8,_⟩|⟨rfl,z,h7,h8,_⟩|⟨rfl,h⟩|⟨rfl,h,rfl⟩|⟨rfl,h,rfl⟩|⟨rfl,h,_⟩
 ·rw[chT,if_pos (by decide)];exact hb n (by omega) (by omega) (by rw[(X3 V).1 (by omega),(X3 V).1 (by simp only;omega)]) (by rw[isZ_t.2.2.2.2.1 (by omega),isZ_t.2.2.2.2.1 (by simp only;omega)])
 ·rw[chT,if_pos (by decide)];exact hb n (by omega) (by omega) (by rw[(X3 V).1 (by omega),(X3 V).1 (by simp only;omega)]) (by rw[isZ_t.2.2.2.2.2 (by omega),isZ_t.2.2.2.2.2 (by simp only;omega)])
 ·rw[chT,if_pos (by decide)];exact hb n (by omega) (by omega) (by rw[(X3 V).2 (by omega),(X3 V).2 (by simp only;omega)]) (by rw[isZ_t.2.2.2.2.2 (by omega),isZ_t.2.2.2.2.2 (by simp only;omega)])
 ·rw[chT,if_neg (by decide),if_pos rfl];have i:QY V x l.length=[]:=UZ V (by omega);have aa:QY V ⟨x.tag,n⟩ l.length=[]:=UZ V (by simp only;omega);rw[i]at j;have v:l=[]:=Lt (by simpa using j.symm);subst v;refine⟨.mk _ _ ?_ g,?_,.inl rfl⟩
  ·rcases h with⟨h,_⟩|⟨h,h5⟩
   ·unfold Qv;rw[if_pos h];rfl
   ·have hl:Q9 ⟨x.tag,n⟩=(1,0):=by unfold Q9;rw[if_pos h]
    have ab:n=0\/n=1:=by
     rw[h5];unfold wrap64;rcases hn h with e|e<;>rw[e]<;>omega
    rw[El hl (by omega) (by omega) (by omega)];rfl
  ·have hi:isZ V ⟨x.tag,n⟩=isZ V x:=by
     rcases h with⟨h,_⟩|⟨h,_⟩
     ·rw[(isZ_t (x:=x)).1 h,(isZ_t (x:=⟨x.tag,n⟩)).1 h]
     ·rw[(isZ_t (x:=x)).2.1 h,(isZ_t (x:=⟨x.tag,n⟩)).2.1 h]
   rw[ofT,ofT,i,aa,hi];simp[Zb]
 ·rw[chT,if_neg (by decide),if_neg (by decide),if_pos rfl];refine⟨.mk _ _ (by decide) (λk hk=>by cases hk),?_,.inr ⟨by show ¬(26:Int)=20;decide,by show ¬x.tag=20;omega⟩⟩;rw[h1,Aik h h2,ofT,UZ V (by simp),isZ_t.2.2.2.1 rfl];simp[Zb]
 ·rw[chT,if_neg (by decide),if_neg (by decide),if_neg (by decide),if_pos rfl];obtain⟨ws,i⟩:=Acx V (n:=l.length) h;rw[i]at j o
  match l,p,g,j,o,i with
  |[],_,_,j,_,_=>simp at j
  |c::r,p,g,j,o,i=>
   have m:ofT V c=1:=XX o 0 c 1 rfl rfl;refine⟨.mk _ _ p λk hk=>?_,?_,.inl rfl⟩
   ·rcases Ls.1 hk with rfl|hk
    ·exact .mk _ _ (show Qv ⟨6,0⟩=((1:Nat):Int) by decide) λk hk=>by rw[Lv.1 hk];exact g c (by simp)
    ·exact g k (by simp[hk])
   ·have w:ofT V (.node ⟨6,0⟩ [c])=1:=by
      rw[ofT,Ai9 V rfl,isZ_t.2.2.1 rfl];simp[Zb,m,EO]
    rw[ofT,ofT,i];have hl:((Tr.node ⟨6,0⟩ [c])::r).length=(c::r).length:=rfl;rw[Ak4,hl,i]
    have q:Zb V (ZH x) true ((Tr.node ⟨6,0⟩ [c])::r) (1::ws)=Zb V (ZH x) true (c::r) (1::ws):=by
     rw[Zb,Zb,w,m];simp
    rw[q]
 ·rw[chT,if_neg (by decide),if_neg (by decide),if_neg (by decide),if_neg (by decide)];have i:QY V x l.length=[0]:=Aei V h;rw[i]at j o
  match l,p,g,j,o,i with
  |[],_,_,j,_,_=>simp at j
  |c::d::r,_,_,j,_,_=>simp at j
  |[c],p,g,j,o,i=>
   have m:ofT V c=0:=XX o 0 c 0 rfl rfl;refine⟨.mk _ _ p λk hk=>?_,?_,.inl rfl⟩
   ·rw[Lv.1 hk];exact .mk _ _ (by unfold Qv;rfl) λk hk=>by cases hk
   ·have u:ofT V (.node ⟨1,n⟩ [])=0:=by
      rw[ofT,UZ V (by simp),isZ_t.1 rfl];simp[Zb]
    rw[ofT,ofT];show(if isZ V x= -1\/(QY V x 1).length≠1 then _ else _)=(if isZ V x= -1\/(QY V x 1).length≠1 then _ else _)
    have q:Zb V (ZH x) true [(Tr.node ⟨1,n⟩ [])] (QY V x 1)=Zb V (ZH x) true [c] (QY V x 1):=by
     rw[show QY V x 1=[0]from i];simp[Zb,u,m]
    rw[show QY V x [Tr.node ⟨1,n⟩ []].length=QY V x 1 from rfl,show QY V x [c].length=QY V x 1 from rfl,q]
theorem AhH{l a b:List Nd}{k:Tr}{op n:Int}{V:List Int}{y:Nd}(h:l=a++(k.flat++b))(hk:k.fits)(ht:ofT V k≠ -1)(hc:isC k.root y op n=true):Jy l a.length k op n=a++((chT op n k).flat++b):=by
 obtain⟨x,e⟩:=k;obtain⟨_,_,o,_⟩:=Xa ht;have d:(Tr.node x e).root=x:=rfl;rw[d]at hc;have g:l.take a.length=a:=by rw[h];simp
 have i:l.drop (a.length+1)=QM e++b:=by rw[h,Tr.flat];simp
 have j:l.drop (a.length+(Tr.node x e).size)=b:=by
  rw[h, <-Ly];exact List.drop_left' (by simp[Tr.size])
 have m:l.take (a.length+1)=a++[x]:=by
  rw[h,Tr.flat,show a++(x::QM e++b)=(a++[x])++(QM e++b) by simp];exact Nt (by simp)
 unfold Jy VT ED;rw[d];rcases Vg hc with⟨rfl,_⟩|⟨rfl,_⟩|⟨rfl,_⟩|⟨rfl,h⟩|⟨rfl,h,rfl⟩|⟨rfl,h,rfl⟩|⟨rfl,h,_⟩
 ·rw[chT,if_pos (by decide),if_pos (by decide),g,i,Tr.flat];simp
 ·rw[chT,if_pos (by decide),if_pos (by decide),g,i,Tr.flat];simp
 ·rw[chT,if_pos (by decide),if_pos (by decide),g,i,Tr.flat];simp
 ·rw[chT,if_neg (by decide),if_pos rfl,if_neg (by decide),if_pos rfl,g,i,Tr.flat];simp
 ·rw[chT,if_neg (by decide),if_neg (by decide),if_pos rfl,if_neg (by decide),if_neg (by decide),if_pos rfl,g,j,Tr.flat];simp[QM]
 ·rw[chT,if_neg (by decide),if_neg (by decide),if_neg (by decide),if_pos rfl,if_neg (by decide),if_neg (by decide),if_neg (by decide),if_pos rfl];simp only;rw[m,i,Tr.flat];obtain⟨q,p⟩:=Acx V (n:=e.length) h;rw[p]at o
  match e,o with
  |c::r,_=>simp[Ak4,QM,Tr.flat]
 ·rw[chT,if_neg (by decide),if_neg (by decide),if_neg (by decide),if_neg (by decide),if_neg (by decide),if_neg (by decide),if_neg (by decide),if_neg (by decide)];simp only;rw[m,j,Tr.flat];simp[QM,Tr.flat]
theorem Aea{x:Nd}{ks:List Tr}(h:(Tr.node x ks).fits)(h2:x.tag=2):x.n=0\/x.n=1:=by
 have d:=h.len;obtain⟨a,b⟩:=x;simp only at h2;subst h2;by_cases e:b<0\/1<b
 ·have c:Qv ⟨2,b⟩= -1:=by
    unfold Qv;rw[if_neg (by simp),show Q9 ⟨2,b⟩=(1,0)from by unfold Q9;rw[if_pos rfl],if_pos e]
  rw[c]at d;omega
 ·simp only;omega
theorem Good.typed{p:PgV}{t:Tr}(h:Good p t):ofT p.V t≠ -1:=by rw[h.kind];decide
theorem Good.change{p:PgV}{t:Tr}(h:Good p t){d:Dl}(hd:d∈Ze p.body t):∃q k,ZO d.path 0 t=some (q,k)/\At p.body q k/\ofT p.V k≠ -1/\isC k.root (Vi p.body (q+1)) d.op d.n=true/\Vi p.body q=k.root/\
 ∀m:PgV,m.params=p.params->m.V=p.V->m.body=Jy p.body q k d.op d.n->Good m (XL (chT d.op d.n) d.path t):=by
 obtain⟨q,k,g,hc⟩:=allZ_mem.1 hd;have hat:=UA h.hat g
 have o:Vi p.body q=k.root:=by
  obtain⟨r,u⟩:=hat.here
  have:p.body[q]? =some k.root:=by
   have:=congrArg (·[0]?) u;obtain⟨x,ks⟩:=k;simpa[Nn,Tr.flat,Tr.root]using this
  unfold Vi;rw[this];rfl
 have i:=EL h.hat.fits g;have j:=VA h.typed g
 have w:k.root.tag=2->k.root.n=0\/k.root.n=1:=by
  obtain⟨x,ks⟩:=k;exact Aea i
 have e:isC k.root (Vi p.body (q+1)) d.op d.n=true:=by
  have l:(d.op,d.n)∈Jm (Vi p.body q) (Vi p.body (q+1)):=hc;rw[o]at l;exact(AbT w).1 l
 refine⟨q,k,g,hat,j,e,o,λm m1 m2 m3=>?_⟩;obtain⟨c1,c2,c3⟩:=Ajz i j e w;obtain⟨k1,s⟩:=AbF g c2 c3;obtain⟨a,b,f1,f2,f3⟩:=EM _ _ _ _ _ g
 have c:p.body=t.flat:=by
  obtain⟨r,u⟩:=h.hat.here;have y:=congrArg List.length u;have hs:=h.size;rw[Le]at y;have:t.flat.length=p.body.length:=hs;have v:r=[]:=Lt (by simp at y;omega);subst v;simpa using u
 have hq:q=a.length:=by omega
 subst hq
 have z:m.body=(XL (chT d.op d.n) d.path t).flat:=by
  rw[m3,f3,AhH (c.trans f1) i j e]
 refine⟨⟨AbE h.hat.fits g (λ_=>c1),[],?_⟩,?_,?_,?_,?_⟩
 ·rw[z];simp
 ·rw[z];rfl
 ·rw[m1,m2];exact h.vars
 ·rcases s with s|⟨_,s⟩
  ·rw[s,h.tag]
  ·exact absurd h.tag s
 ·rw[m2,k1,h.kind]
end Go.Proofs.YtkoikjnlpifbjaaGreat
namespace Go.Proofs.YtkoikjnlpifbjaaGreat
open Go.RowKit Go.Deep
theorem Aat:∀{l:List Nd} {q:Nat} (y:Nd),q<l.length->l.set q y=l.take q++y::l.drop (q+1)
 |[],_,_,h=>by simp at h
 |x::l,0,y,_=>by simp
 |x::l,q+1,y,h=>by
  rw[List.set_cons_succ,Aat (l:=l) y (by simpa using h)]
  simp
theorem Adv:∀ks:List Tr,ks.length<=(QM ks).length
 |[]=>by simp
 | .node x js::ts=>by
  have:=Adv ts
  rw[QM,Le,Tr.flat,Lc,Lc]
  omega
def Aes (p:PgV)(w:World):Prop:=∀(q:Nat) (t:Tr) (W:World),Below w.heap.size w W->At p.body q t->(t.root.tag=23\/t.root.tag=24)->q+1<p.body.length->Calls Tryz.prog 92 #[.agg (ZL p q 0)] W λe w'=>NdsR (p.body.take (q+1)++(⟨6,0⟩::p.body.drop (q+1))) W w' e
theorem AgK{p:PgV}{t k:Tr}{π:List Int}{q:Nat}(h:Good p t)(hf:ZO π 0 t=some (q,k)):Xj p.body π=(q:Int):=by
 unfold Xj;rw[if_pos h.whole.endZ];have:=AaC π 0 t h.hat;rw[hf]at this;exact this
theorem AaZ (p:PgV)(t:Tr)(A:Option Addr)(cap:Nat)(d:Dl)(w:World)(hok:p.ok w)(hra:Rd w A (Qi d.path))(hπ:d.path.length<=1000000)(hbl:p.body.length<=1000)(hg:Good p t)(hd:d∈Ze p.body t)(hneg:Aes p w):
 ∃q k,ZO d.path 0 t=some (q,k)/\(∀m:PgV,m.params=p.params->m.V=p.V->m.body=Jy p.body q k d.op d.n->Good m (XL (chT d.op d.n) d.path t))/\
  Calls Tryz.prog 56 #[.agg p.cells,.agg #[.slice A d.path.length cap,.int .i64 d.op,.int .i64 d.n]] w λe w'=>AplR p (Jy p.body q k d.op d.n) w w' e:=by
 obtain⟨q,k,hf,i,z,hc,_,hm⟩:=hg.change hd;refine⟨q,k,hf,hm,?_⟩;have l:=AgK hg hf;have y:p.V.length<=12:=hg.vars.2.2.1;have hq:=i.lt;have hx:=i.root;have hs:=i.le;obtain⟨π,op,n⟩:=d;dsimp only at hra hπ hf hc l|-;obtain⟨x,o⟩:=k;have g:(Tr.node x o).root=x:=rfl;rw[g]at hc hx;have j:∀c:Nat×Nd×Nat,0<(VT p.body c).length:=λc=>by unfold VT;simp;omega
 have s:op<=3->Jy p.body q (.node x o) op n=p.body.set q ⟨n,x.n⟩:=λh=>by
  unfold Jy ED VT;rw[g,if_pos h,Aat _ hq]
 rcases Vg hc with⟨rfl,h1,v,u,_⟩|⟨rfl,h1,v,u,_⟩|⟨rfl,h1,v,u,_⟩|⟨rfl,h⟩|⟨rfl,h,rfl⟩|⟨rfl,h,rfl⟩|⟨rfl,h,v⟩
 ·exact Aeu 1 87 (by decide) rfl (enters_of Tryz.func87 (by kernel_rfl) rfl) p A cap π n q _ w hok hra hπ l hbl y (j _) λW b=>by rw[s (by decide)];exact Aez p q n x W hx hbl (hok.go b) ⟨h1,v,u⟩
 ·exact Aeu 2 88 (by decide) rfl (enters_of Tryz.func88 (by kernel_rfl) rfl) p A cap π n q _ w hok hra hπ l hbl y (j _) λW b=>by rw[s (by decide)];exact AhT p q n x W hx hbl (hok.go b) ⟨h1,v,u⟩
 ·exact Aeu 3 89 (by decide) rfl (enters_of Tryz.func89 (by kernel_rfl) rfl) p A cap π n q _ w hok hra hπ l hbl y (j _) λW b=>by rw[s (by decide)];exact AeL p q n x W hx hbl (hok.go b) ⟨h1,v,u⟩
 ·refine Aeu 4 90 (by decide) rfl (enters_of Tryz.func90 (by kernel_rfl) rfl) p A cap π n q _ w hok hra hπ l hbl y (j _) λW b=>?_
  have e:Jy p.body q (.node x o) 4 n=p.body.set q ⟨x.tag,n⟩:=by
   unfold Jy ED VT;rw[g,if_neg (by decide),if_pos rfl,Aat _ hq]
  rw[e];refine AeC p q n x W hx hbl (hok.go b) ?_;rcases h with⟨h,_⟩|⟨h,h5⟩
  ·exact .inl h
  ·have v:=Aea i.fits h;refine .inr ⟨h,?_⟩;rw[h5];unfold wrap64;rcases v with e|e<;>rw[e]<;>omega
 ·refine Aeu 5 91 (by decide) rfl (enters_of Tryz.func91 (by kernel_rfl) rfl) p A cap π 0 q _ w hok hra hπ l hbl y (j _) λW b=>?_
  have e:Jy p.body q (.node x o) 5 0=p.body.take q++([⟨26,0⟩]++p.body.drop (q+(Tr.node x o).size)):=by
   unfold Jy ED VT;rw[g,if_neg (by decide),if_neg (by decide),if_pos rfl];rfl
  rw[e];exact AhU p q (.node x o) W i hbl (hok.go b) h
 ·refine Aeu 6 92 (by decide) rfl (enters_of Tryz.func92 (by kernel_rfl) rfl) p A cap π 0 q _ w hok hra hπ l hbl y (j _) λW b=>?_
  have e:Jy p.body q (.node x o) 6 0=p.body.take (q+1)++(⟨6,0⟩::p.body.drop (q+1)):=by
   unfold Jy ED VT;rw[g,if_neg (by decide),if_neg (by decide),if_neg (by decide),if_pos rfl]
  rw[e];refine hneg q (.node x o) W b i h ?_;obtain⟨_,_,u,_⟩:=Xa z;obtain⟨ws,hw⟩:=Acx p.V (n:=o.length) h;rw[hw]at u;have h4:=Adv o;have h5:(Tr.node x o).size=(QM o).length+1:=by unfold Tr.size;rw[Tr.flat,Lc]
  simp only[Lc]at u;omega
 ·refine Aeu 7 93 (by decide) rfl (enters_of Tryz.func93 (by kernel_rfl) rfl) p A cap π n q _ w hok hra hπ l hbl y (j _) λW b=>?_
  obtain⟨_,_,u,_⟩:=Xa z;rw[Aei p.V h]at u
  match o,u,i,hf,z with
  |[c],_,i,_,_=>
   have ab:(Tr.node x [c]).size=1+c.size:=by unfold Tr.size;rw[Tr.flat,Lc,QM,QM,LR];omega
   have aa:At p.body (q+1) c:=by
    obtain⟨r,hr⟩:=i.here;refine⟨i.fits.kids c (by simp),r,?_⟩;rw[<-Nj,hr,Tr.flat,QM,QM,LR];rfl
   have e:Jy p.body q (.node x [c]) 7 n=p.body.take (q+1)++([⟨1,n⟩]++p.body.drop (q+1+c.size)):=by
    unfold Jy ED VT;rw[g,if_neg (by decide),if_neg (by decide),if_neg (by decide),if_neg (by decide),ab];simp only;rw[show q+(1+c.size)=q+1+c.size by omega];rfl
   rw[e];exact AhL p q n (.node x [c]) c W i aa hbl (hok.go b) h
theorem Afd (p:PgV)(t:Tr)(x:DlV)(w:World)(hok:p.ok w)(hx:DlOk w x)(hbl:p.body.length<=1000)(hg:Fine p t)(hd:x.d∈Ze p.body t)(hneg:∀W,p.ok W->Aes p W):
 ∃q k,ZO x.d.path 0 t=some (q,k)/\(∀m:PgV,m.params=p.params->m.V=p.V->m.body=Jy p.body q k x.d.op x.d.n->Good m (XL (chT x.d.op x.d.n) x.d.path t))/\
  Calls Tryz.prog 21 #[.agg p.cells,.agg x.cells] w λe w'=>AplR p (Jy p.body q k x.d.op x.d.n) w w' e:=by
 obtain⟨q,k,hf,hm,_⟩:=AaZ p t x.A x.cap x.d w hok hx.1 hx.2 hbl hg.good hd (hneg w hok);refine⟨q,k,hf,hm,?_⟩;obtain⟨bd,s⟩:∃bd,bd=Jy p.body q k x.d.op x.d.n:=⟨_,rfl⟩;rw[<-s]
 have HA:Hid (∀W,Below w.heap.size w W->Calls Tryz.prog 56 #[.agg p.cells,.agg x.cells] W λe w'=>AplR p bd W w' e):=λW b=>by
  obtain⟨q',k',j,_,h⟩:=AaZ p t x.A x.cap x.d W (hok.go b) (hx.1.go b) hx.2 hbl hg.good hd (hneg W (hok.go b));rw[hf]at j;injection j with j;injection j with h1 h2;subst h1 h2;rw[s];exact h
 have HS:Hid (∀W,Below w.heap.size w W->Calls Tryz.prog 15 #[.agg p.cells] W λe w'=>AllR p W w' e):=λW b=>Yn p hbl W (hok.go b);have HX:Hid (∀W,Below w.heap.size w W->DlOk W x):=λW b=>⟨hx.1.go b,hx.2⟩;have Hd:=Lh hd;have Hg:=Lh hg;have Hc:=Lh (checkP_ok.2 ⟨t,hg⟩);clear hok hx hbl hg hd hneg hf hm s;go_enter Tryz.func21,Tryz.ntmps21
 go_wp2_with (refine Qq _ _ rfl ?_)
 refine Stop.to ?_;refine Qe rfl 25 _ rfl p.cells rfl ?_;intro G Gw Gh Gr Gb;go_wp2_with (refine Qq _ _ rfl ?_)
 refine Stop.to ?_;refine Qe rfl 50 _ rfl x.cells rfl ?_;intro D Dw Dh Dr Db;go_wp2_with (first|fail| (refine QH _ rfl ?_))
 refine Stop.to ?_;refine Qj rfl 25 rfl _ _ KT rfl ?_;intro R Rw Rh Rr Rb;have b1:=(Below.refl w.heap.size w).trans (Gb.mono Gh);have b2:=b1.trans ((Db.mono Dh).mono b1.size);have b3:=b2.trans ((Rb.mono Rh).mono b2.size);have hR:w.heap.size<=R:=Ld b2.size Rh;have rG:=(Gr.below Db (Lg Gr.lt Dh));have c:=rG.below Rb (Lg rG.lt Rh);have l:=Dr.below Rb (Lg Dr.lt Rh);have i:Row Rw R 25 #[.int .i64 0,.slice none 0 0,.slice none 0 0]:=Rr;have H1:=Lh (HS.out _ b3);clear Gr Gb Gh Dr Db Dh Rb Rh rG b1 b2 Rr HS;go_wp2_with (refine wpList_load_row rfl 25 _ rfl G rfl 25 p.cells (0,0) _ c Tryz.underlying25 rfl (by kernel_rfl) ?_)
 refine H1.out.mono ?_;rintro e w1 ⟨A,cap,xs,rfl,ad,aa,ac,hT,o,_,ab,b4⟩;rw[Hc.out];have g:=o t Hg.out;have b5:=b3.trans (b4.mono b3.size);replace c:=c.below b4 c.lt;replace l:=l.below b4 l.lt;replace i:=i.below b4 i.lt;have v:=Lh (Add A cap xs x w1 ad (by omega) (λy hy=>(hT y hy).ok) (HX.out _ b5) (by rw[g];exact U7 _ _));have z:Hid (x.d∈xs.map DlV.d):=by show _∈_;rw[g];exact Hd.out
 clear H1 ad aa ac hT o g ab b4 b3;go_wp2_with (refine wpList_load_row rfl 50 _ rfl D rfl 50 x.cells (0,0) _ l Tryz.underlying50 rfl (by kernel_rfl) ?_)
 refine v.out.mono ?_;rintro e w2 ⟨⟨r,rfl,hr⟩,b6⟩;have ae:¬(r<0):=by have:=hr.2 z.out;omega
 have u:=b5.trans (b6.mono b5.size);replace c:=c.below b6 c.lt;replace l:=l.below b6 l.lt;replace i:=i.below b6 i.lt;have H2:=Lh (HA.out _ u);clear v z hr b6 b5 HA HX;go_wp2_with (first| (refine wpList_load_row rfl 25 _ rfl G rfl 25 p.cells (0,0) _ c Tryz.underlying25 rfl (by kernel_rfl) ?_)| (refine wpList_load_row rfl 50 _ rfl D rfl 50 x.cells (0,0) _ l Tryz.underlying50 rfl (by kernel_rfl) ?_))
 refine H2.out.mono ?_;rintro e w3 ⟨m,rfl,hm,o1,o2,b8⟩;replace i:=i.below b8 i.lt;have b9:=u.trans (b8.mono u.size);have p1:=QR o1 u.size;have p2:=QR o2 u.size;have Hm:=Lh hm;clear H2 c l o1 o2 b8 u hm;go_wp2_with (refine Qs 25 _ _ rfl ?_)
 refine Stop.to ?_;refine Qk rfl 25 _ _ rfl R m.cells rfl rfl 25 _ i (by kernel_rfl) rfl (by simp[PgV.cells,Value.oneCell']) ?_;intro W9 r9 o9;have q1:=Qx p1 o9 (Qz p1 i (by decide));have q2:=Qx p2 o9 (Qz p2 i (by decide));have bE:=Qp b9 o9 hR;clear p1 p2 b9 o9 i;go_wp2_with fail
 refine bodyPost_ret (QZ Tryz.results21 _ _ R 25 _ (0,0) _ rfl r9 Tryz.underlying25 rfl (by kernel_rfl)) rfl ?_;exact⟨m,rfl,Hm.out,q1,q2,bE⟩
end Go.Proofs.YtkoikjnlpifbjaaGreat
namespace Go.Proofs.YtkoikjnlpifbjaaGreat
open Go.RowKit
theorem Ed{w:World}{base n size:Nat}{e:TypeId}{v:Value}{xs:List Value}(h:w.ownsRow base e size v n xs):∃A cap,v=.slice A n cap/\Rd w A xs/\n<=cap/\cap<=maxLen/\(A=none->cap=0)/\∀ad,A=some ad->base<=ad.block:=by
 have p:xs.length=n*size:=h.1;rcases h.2 with⟨rfl,i⟩|⟨g,cap,c,rfl,l,o,m,q,t,x⟩
 ·have y:xs=[]:=Lt (by rw[p,i,Nat.zero_mul]);subst y;exact⟨none,0,by rw[i],Rd.nil _ _,by omega,by unfold maxLen;omega,λ_=>rfl,λad e=>by cases e⟩
 ·refine⟨some ⟨g,0,none⟩,cap,rfl,λj u d=>⟨_,rfl,?_⟩,m,q,λe=>(by cases e),λad e=>by cases e;exact l⟩;have s:Row w g e c:=o
  exact s.from_ 0 (cs:=xs) (λj v d=>by
   rw[LG, <-Ng]
   have k:(c.toList.take (n*size))[j]? =some v:=by rw[x];exact d
   rw[LQ (by have:=(La.1 d).1;omega)]at k;exact k) j u d
end Go.Proofs.YtkoikjnlpifbjaaGreat
namespace Go.Proofs.YtkoikjnlpifbjaaGreat
open Go.RowKit Go.Deep
noncomputable def mutB (p:PgV)(d:Dl):List Nd:=open Classical in if h:∃b,∃t q k,Fine p t/\ZO d.path 0 t=some (q,k)/\b=Jy p.body q k d.op d.n then h.choose else []
theorem Ea{p:PgV}{d:Dl}{t k:Tr}{q:Nat}(hf:Fine p t)(h:ZO d.path 0 t=some (q,k)):mutB p d=Jy p.body q k d.op d.n:=by
 unfold mutB;have c:∃b,∃t q k,Fine p t/\ZO d.path 0 t=some (q,k)/\b=Jy p.body q k d.op d.n:=⟨_,t,q,k,hf,h,rfl⟩;rw[dif_pos c];obtain⟨m,l,j,g,e,i⟩:=c.choose_spec;rw[i];obtain rfl:=g.good.whole.uniq hf.good.whole;rw[h]at e;injection e with e;injection e with e1 e2;subst e1 e2;rfl
noncomputable def mutC (p:PgV)(d:Dl):Int:=open Classical in if QX p≠0 then QX p else if ∃t,Fine p t/\d∈Ze p.body t then 0 else 17
theorem Afc{p:PgV}{d:Dl}{t:Tr}(hf:Fine p t)(hd:d∈Ze p.body t):mutC p d=0:=by
 unfold mutC;rw[if_neg (by rw[checkP_ok.2 ⟨t,hf⟩];simp),if_pos ⟨t,hf,hd⟩]
theorem Aj6{p:PgV}{d:Dl}{t:Tr}(hf:Fine p t)(hd:d∉Ze p.body t):mutC p d=17:=by
 unfold mutC;rw[if_neg (by rw[checkP_ok.2 ⟨t,hf⟩];simp),if_neg (λ⟨u,h1,h2⟩=>hd (by rw[hf.good.whole.uniq h1.good.whole];exact h2))]
theorem Ak3{p:PgV}{d:Dl}(h:QX p≠0):mutC p d=QX p:=by unfold mutC;rw[if_pos h]
theorem Aj7{p:PgV}{d:Dl}(h:mutC p d=0):∃t,Fine p t/\d∈Ze p.body t:=by
 unfold mutC at h;split at h
 ·rename_i c;exact absurd h c
 ·split at h
  ·assumption
  ·cases h
structure IsMut (p:PgV)(d:Dl)(m:PgV):Prop where
 par:m.params=p.params
 vars:m.V=p.V
 body:m.body=mutB p d
theorem Aiu{p m:PgV}{d:Dl}(h:IsMut p d m)(hc:mutC p d=0):∃t,Good m t:=by
 obtain⟨t,c,i⟩:=Aj7 hc;obtain⟨q,k,e,_,_,_,_,g⟩:=c.good.change i;exact⟨_,g m h.par h.vars (h.body.trans (Ea c e))⟩
theorem AkZ{x y:Nd}{op n:Int}(h:isC x y op n=true):InI n:=by
 unfold isC at h;have c:∀a:Int,InI (wrap64 a):=λa=>by unfold wrap64 InI;omega
 by_cases d:op=1
 ·rw[if_pos d,decide_eq_true_eq]at h;unfold InI;omega
 rw[if_neg d]at h;by_cases e:op=2
 ·rw[if_pos e,decide_eq_true_eq]at h;unfold InI;omega
 rw[if_neg e]at h;by_cases g:op=3
 ·rw[if_pos g,decide_eq_true_eq]at h;unfold InI;omega
 rw[if_neg g]at h;by_cases i:op=4
 ·rw[if_pos i,decide_eq_true_eq]at h;rcases h with⟨_,h|h|h|h|h,_⟩|⟨_,h⟩
  ·unfold InI;omega
  ·unfold InI;omega
  ·unfold InI;omega
  ·rw[h];exact c _
  ·rw[h];exact c _
  ·rw[h];exact c _
 rw[if_neg i]at h;by_cases j:op=5
 ·rw[if_pos j,decide_eq_true_eq]at h;unfold InI;omega
 rw[if_neg j]at h;by_cases k:op=6
 ·rw[if_pos k,decide_eq_true_eq]at h;unfold InI;omega
 rw[if_neg k]at h;by_cases l:op=7
 ·rw[if_pos l,decide_eq_true_eq]at h;unfold InI;omega
 rw[if_neg l]at h;cases h
theorem AiL{l:List Nd}{c:Nat×Nd×Nat}{y:Nd}(h:y∈VT l c):y∈l\/y=c.2.1:=by
 unfold VT at h;rcases L2.1 h with h|h
 ·exact .inl (List.mem_of_mem_take h)
 ·rcases Ls.1 h with h|h
  ·exact .inr h
  ·exact .inl (List.mem_of_mem_drop h)
theorem AcP{p:PgV}{t:Tr}{d:Dl}{q:Nat}{k:Tr}(hg:Good p t)(hd:d∈Ze p.body t)(hf:ZO d.path 0 t=some (q,k))(hin:∀x∈p.body,InI x.tag/\InI x.n):(∀x∈Jy p.body q k d.op d.n,InI x.tag/\InI x.n)/\(Jy p.body q k d.op d.n).length<=p.body.length+1:=by
 obtain⟨w,v,g,j,_,m,_,_⟩:=hg.change hd;rw[hf]at g;injection g with g;injection g with e1 e2;subst e1 e2;have i:=AkZ m;have u:=k.size_eq;have o:=j.le;have l:=hin _ (Lf j.root);have e:InI 0/\InI 1/\InI 6/\InI 26:=by unfold InI;omega
 have c:InI (ED k.root q k.size d.op d.n).2.1.tag/\InI (ED k.root q k.size d.op d.n).2.1.n:=by
  unfold ED;split
  ·exact⟨i,l.2⟩
  ·split
   ·exact⟨l.1,i⟩
   ·split
    ·exact⟨e.2.2.2,e.1⟩
    ·split
     ·exact⟨e.2.2.1,e.1⟩
     ·exact⟨e.2.1,i⟩
 constructor
 ·intro x s;rcases AiL s with h|h
  ·exact hin x h
  ·rw[h];exact c
 ·unfold Jy VT;rw[Le,Lc,L1,LO];unfold ED;split
  ·simp only;omega
  ·split
   ·simp only;omega
   ·split
    ·simp only;omega
    ·split<;>(simp only;omega)
theorem Afe (p:PgV)(hbl:p.body.length<=1000)(W:World)(hok:p.ok W):Aes p W:=λq t W2 b hat h hq=>AhP p q t W2 hat hbl (hok.go b) h hq
theorem AplR.okm{p:PgV}{bd:List Nd}{w w':World}{e:Ending}(h:AplR p bd w w' e)(hok:p.ok w)(hin:∀x∈bd,InI x.tag/\InI x.n):∃m:PgV,e=.returned (.tuple #[.agg m.cells,.int .i64 0])/\(m.params=p.params/\m.V=p.V/\m.body=bd)/\m.ok w'/\(∀ad,m.va=some ad\/m.ba=some ad->w.heap.size<=ad.block)/\Below w.heap.size w w':=by
 obtain⟨m,h1,d,t,u,h5⟩:=h;refine⟨m,h1,d,?_,?_,h5⟩;rotate_left
 ·obtain⟨A,c,j,_,_,_,_,z⟩:=Ed t;obtain⟨B,c2,k,_,_,_,_,b4⟩:=Ed u;injection j with x1 _ _;injection k with y1 _ _;intro ad h;rcases h with h|h
  ·exact z ad (x1▸h)
  ·exact b4 ad (y1▸h)
 obtain⟨A,c,j,v,l,o,g,_⟩:=Ed t;obtain⟨B,c2,k,y,q,s,i,_⟩:=Ed u;injection j with x1 _ x3;injection k with y1 _ y3;rw[<-x1]at v g;rw[<-y1]at y i;rw[<-x3]at l o g;rw[<-y3]at q s i;exact⟨by rw[d.1];exact hok.par,l,o,g,v,by rw[d.2.1];exact hok.vin,q,s,i,y,by rw[d.2.2];exact hin⟩
end Go.Proofs.YtkoikjnlpifbjaaGreat
