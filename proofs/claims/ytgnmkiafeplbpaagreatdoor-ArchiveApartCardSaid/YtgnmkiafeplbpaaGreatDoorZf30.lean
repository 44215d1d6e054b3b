/- Lemmas for ArAll. -/
import Derived.Test.YtgnmkiafeplbpaaGreatDoorZf3
import Derived.Test.YtgnmkiafeplbpaaGreatDoorZf10
import Derived.Test.YtgnmkiafeplbpaaGreatDoorZf29
import Derived.Test.YtgnmkiafeplbpaaGreatDoorZf22
import Derived.Test.YtgnmkiafeplbpaaGreatDoorZf28
import Derived.Test.YtgnmkiafeplbpaaGreatDoorZf1
set_option linter.unusedVariables false
set_option linter.unusedSimpArgs false
set_option maxRecDepth 100000
set_option maxHeartbeats 16000000
namespace Go.Proofs.YtgnmkiafeplbpaaGreatDoor
open Go.RowKit
def AmL (x:Nd)(q s:Nat)(op n:Int):Nat×Nd×Nat:=
 if op<=3 then(q,⟨n,x.n⟩,q+1)else if op=4 then(q,⟨x.tag,n⟩,q+1)else if op=5 then(q,⟨26,0⟩,q+s)else if op=6 then(q+1,⟨6,0⟩,q+1)else(q+1,⟨1,n⟩,q+s)
def AmS (l:List Nd)(c:Nat×Nd×Nat):List Nd:=l.take c.1++(c.2.1::l.drop c.2.2)
def AiL (l:List Nd)(q:Nat)(k:Tr)(op n:Int):List Nd:=AmS l (AmL k.root q k.size op n)
def Amo:List Tr->List Tr
 |[]=>[]
 |c::r=>.node ⟨6,0⟩ [c]::r
def chT (op n:Int):Tr->Tr
 | .node x ks=>if op<=3 then .node ⟨n,x.n⟩ ks else if op=4 then .node ⟨x.tag,n⟩ ks else if op=5 then .node ⟨26,0⟩ []else
  if op=6 then .node x (Amo ks)else .node x [.node ⟨1,n⟩ []]
mutual
def Ym (f:Tr->Tr):List Int->Tr->Tr
 |[],t=>f t
 |i::π,.node x ks=>.node x (Yw f π i.toNat ks)
def Yw (f:Tr->Tr)(π:List Int):Nat->List Tr->List Tr
 |_,[]=>[]
 |0,t::ts=>Ym f π t::ts
 |i+1,t::ts=>t::Yw f π i ts
end
theorem Abp (f:Tr->Tr)(π:List Int):∀(i:Nat) (ks:List Tr),(Yw f π i ks).length=ks.length
 |_,[]=>by simp[Yw]
 |0,t::ts=>by simp[Yw]
 |i+1,t::ts=>by simp[Yw,Abp f π i ts]
theorem AcU:∀(ts:List Tr) (p i:Nat) (r:Nat) (k:Tr),(Zm p ts)[i]? =some r->ts[i]? =some k->∃a b:List Nd,QM ts=a++(k.flat++b)/\r=p+a.length/\∀(f:Tr->Tr) (π:List Int),QM (Yw f π i ts)=a++((Ym f π k).flat++b)
 |[],_,_,_,_,h,_=>by simp[Zm]at h
 |t::ts,p,0,r,k,h1,h2=>by
  simp[Zm]at h1 h2
  subst h1 h2
  exact⟨[],QM ts,by simp[QM],by simp,λf π=>by simp[Yw,QM]⟩
 |t::ts,p,i+1,r,k,h1,h2=>by
  simp[Zm]at h1 h2
  obtain⟨a,b,e1,e2,e3⟩:=AcU ts (p+t.size) i r k h1 h2
  refine⟨t.flat++a,b,by rw[QM,e1,L4],by rw[e2,La];show p+t.flat.length+a.length=_;omega,λf π=>?_⟩
  rw[Yw,QM,e3,L4]
theorem AaG:∀(π:List Int) (q r:Nat) (t k:Tr),ZX π q t=some (r,k)->∃a b:List Nd,t.flat=a++(k.flat++b)/\r=q+a.length/\∀f:Tr->Tr,(Ym f π t).flat=a++((f k).flat++b)
 |[],q,r,t,k,h=>by
  simp[ZX]at h
  obtain⟨rfl,rfl⟩:=h
  exact⟨[],[],by simp,by simp,λf=>by simp[Ym]⟩
 |i::π,q,r,.node x ks,k,h=>by
  rw[ZX]at h
  split at h
  ·cases h
  ·split at h
   ·rename_i s u h1 h2
    obtain⟨a,b,e1,e2,e3⟩:=AcU ks (q+1) i.toNat s u h1 h2
    obtain⟨a2,b2,g1,g2,g3⟩:=AaG π s r u k h
    refine⟨x::(a++a2),b2++b,by rw[Tr.flat,e1,g1];simp,by rw[g2,e2];simp;omega,λf=>?_⟩
    rw[Ym,Tr.flat,e3,g3]
    simp
   ·cases h
theorem K0{π:List Int}{i:Int}{q r:Nat}{x:Nd}{ks:List Tr}{k:Tr}(h:ZX (i::π) q (.node x ks)=some (r,k)):∃s u,(Zm (q+1) ks)[i.toNat]? =some s/\ks[i.toNat]? =some u/\ZX π s u=some (r,k):=by
 rw[ZX]at h;split at h
 ·cases h
 ·split at h
  ·rename_i s u a b;exact⟨s,u,a,b,h⟩
  ·cases h
theorem AeU (f:Tr->Tr)(π:List Int):∀(ks:List Tr) (i j:Nat) (u:Tr),ks[i]? =some u->(Yw f π i ks)[j]? =if j=i then some (Ym f π u)else ks[j]?
 |[],i,_,_,h=>by simp at h
 |t::ts,0,j,u,h=>by
  simp at h;subst h
  cases j with
  |zero=>simp[Yw]
  |succ j=>simp[Yw]
 |t::ts,i+1,j,u,h=>by
  simp at h
  cases j with
  |zero=>simp[Yw]
  |succ j=>simp[Yw,AeU f π ts i j u h]
theorem AcS{f:Tr->Tr}:∀{π:List Int} {q r:Nat} {t k:Tr},t.fits->ZX π q t=some (r,k)->(k.fits->(f k).fits)->(Ym f π t).fits
 |[],q,r,t,k,ht,h,hf=>by
  simp[ZX]at h
  obtain⟨_,rfl⟩:=h
  rw[Ym];exact hf ht
 |i::π,q,r,.node x ks,k,ht,h,hf=>by
  obtain⟨s,u,h1,h2,h3⟩:=K0 h
  cases ht with
  |mk _ _ ha hk=>
   rw[Ym]
   refine .mk _ _ (by rw[Abp];exact ha) λc hc=>?_
   obtain⟨j,hj⟩:=List.mem_iff_getElem?.1 hc
   rw[AeU f π ks i.toNat j u h2]at hj
   split at hj
   ·injection hj with hj
    subst hj
    exact AcS (hk u (Li h2)) h3 hf
   ·exact hk c (Li hj)
theorem AaF:∀{π:List Int} {q r:Nat} {t k:Tr},t.fits->ZX π q t=some (r,k)->k.fits
 |[],q,r,t,k,ht,h=>by simp[ZX]at h;obtain⟨_,rfl⟩:=h;exact ht
 |i::π,q,r,.node x ks,k,ht,h=>by
  obtain⟨s,u,h1,h2,h3⟩:=K0 h
  cases ht with
  |mk _ _ ha hk=>exact AaF (hk u (Li h2)) h3
theorem AaX{V:List Int}{inn:Bool}{f:Tr->Tr}{π:List Int}:∀(ts:List Tr) (ws:List Int) (b:Bool) (i:Nat) (u:Tr),ts[i]? =some u->ofT V (Ym f π u)=ofT V u->(Ym f π u).root.tag=u.root.tag\/(¬(Ym f π u).root.tag=20/\¬u.root.tag=20)->Q1 V inn b (Yw f π i ts) ws=Q1 V inn b ts ws
 |[],_,_,i,u,h,_,_=>by simp at h
 |t::ts,[],b,i,u,h,_,_=>by
  cases i<;>simp[Yw,Q1]
 |t::ts,w::ws,b,0,u,h,h1,h2=>by
  simp at h;subst h
  have e:((Ym f π t).root.tag==20)=(t.root.tag==20):=by
   rcases h2 with h2|⟨h2,a⟩
   ·rw[h2]
   ·rw[Bool.eq_iff_iff,beq_iff_eq,beq_iff_eq];exact⟨λh=>absurd h h2,λh=>absurd h a⟩
  rw[Yw,Q1,Q1,h1,e]
 |t::ts,w::ws,b,i+1,u,h,h1,h2=>by
  simp at h
  rw[Yw,Q1,Q1,AaX ts ws false i u h h1 h2]
theorem AlR{V:List Int}{x:Nd}{n:Nat}(hx:isZ V x≠ -1)(h:(-1:Int)∈Q8 V x n):False:=by
 unfold Q8 at h
 repeat' split at h
 all_goals(try(simp at h;done))
 ·rename_i _ _ _ _ b
  have a:Ks V x.n=true:=by
   by_cases a:Ks V x.n=true
   ·exact a
   ·exfalso;apply hx;unfold isZ;rw[if_neg (by omega),if_neg (by omega),if_neg (by omega),if_neg (by omega),if_neg (by omega),if_neg (by omega),if_neg (by omega),if_neg (by omega),if_pos b,if_neg a]
  obtain⟨t,d,c⟩:=Aa3 a;rw[d]at h;simp at h;omega
theorem Ex{V:List Int}:∀{π:List Int} {q r:Nat} {t k:Tr},ofT V t≠ -1->ZX π q t=some (r,k)->ofT V k≠ -1
 |[],q,r,t,k,ht,h=>by simp[ZX]at h;obtain⟨_,rfl⟩:=h;exact ht
 |i::π,q,r,.node x ks,k,ht,h=>by
  obtain⟨s,u,h1,h2,h3⟩:=K0 h
  obtain⟨_,g2,g3,g4⟩:=V8 ht
  have hl:i.toNat<(Q8 V x ks.length).length:=by rw[g3];exact(Lf.1 h2).1
  have:=Ue g4 i.toNat u _ h2 (Ld hl)
  refine Ex (t:=u) ?_ h3
  rw[this]
  intro e
  have hm:(-1:Int)∈Q8 V x ks.length:=by rw[<-e];exact List.getElem_mem hl
  exact AlR g2 hm
def AgH (a b:Int):Prop:=a=b\/(¬a=20/\¬b=20)
theorem AcT{V:List Int}{f:Tr->Tr}:∀{π:List Int} {q r:Nat} {t k:Tr},ZX π q t=some (r,k)->ofT V (f k)=ofT V k->AgH (f k).root.tag k.root.tag->ofT V (Ym f π t)=ofT V t/\AgH (Ym f π t).root.tag t.root.tag
 |[],q,r,t,k,h,h1,h2=>by simp[ZX]at h;obtain⟨_,rfl⟩:=h;rw[Ym];exact⟨h1,h2⟩
 |i::π,q,r,.node x ks,k,h,h1,h2=>by
  obtain⟨s,u,g1,g2,g3⟩:=K0 h
  obtain⟨e1,e2⟩:=AcT g3 h1 h2
  rw[Ym]
  refine⟨?_,.inl rfl⟩
  rw[ofT,ofT,Abp,AaX ks _ _ i.toNat u g2 e1 e2]
theorem Tr.fits.len{x:Nd}{ks:List Tr}(h:(Tr.node x ks).fits):Qy x=(ks.length:Int):=by cases h;assumption
theorem Tr.fits.kids{x:Nd}{ks:List Tr}(h:(Tr.node x ks).fits):∀k∈ks,k.fits:=by cases h;assumption
theorem Aag{t n m a:Int}(h:QX ⟨t,n⟩=(m,a))(ht:¬t=1)(h0:0<=n)(h1:n<=m):Qy ⟨t,n⟩=a:=by
 unfold Qy;rw[if_neg ht,h,if_neg (by simp only;omega)]
theorem Adi{t n:Int}(h:7<=t/\t<=19):QX ⟨t,n⟩=(0,2):=by
 unfold QX;simp only;rw[if_neg (by omega),if_neg (by omega),if_neg (by omega),if_neg (by omega),if_neg (by omega),if_neg (by omega),if_neg (by omega),if_neg (by omega),if_neg (by omega),if_pos h]
theorem Ahp{x:Nd}(h:7<=x.tag/\x.tag<=19)(ha:Qy x≠ -1):x.n=0:=by
 unfold Qy at ha;rw[if_neg (by omega),show QX x=(0,2)from Adi (t:=x.tag) (n:=x.n) h]at ha;by_cases a:x.n<0\/0<x.n
 ·rw[if_pos a]at ha;exact absurd rfl ha
 ·omega
theorem VY{x y:Nd}{op n:Int}(h:isC x y op n=true):
 (op=1/\(7<=x.tag/\x.tag<=11)/\7<=n/\n<=11/\n≠x.tag)\/(op=2/\(12<=x.tag/\x.tag<=17)/\12<=n/\n<=17/\n≠x.tag)\/(op=3/\(18<=x.tag/\x.tag<=19)/\18<=n/\n<=19/\n≠x.tag)\/
 (op=4/\((x.tag=1/\n≠x.n)\/(x.tag=2/\n=wrap64 (1-x.n))))\/(op=5/\(x.tag=21\/x.tag=22\/x.tag=23\/x.tag=24\/x.tag=25)/\n=0)\/(op=6/\(x.tag=23\/x.tag=24)/\n=0)\/(op=7/\x.tag=25/\(n=0\/n=1)):=by
 unfold isC at h;by_cases c:op=1
 ·rw[if_pos c,decide_eq_true_eq]at h;exact .inl ⟨c,⟨h.1,h.2.1⟩,h.2.2.1,h.2.2.2.1,h.2.2.2.2⟩
 rw[if_neg c]at h;by_cases d:op=2
 ·rw[if_pos d,decide_eq_true_eq]at h;exact .inr (.inl ⟨d,⟨h.1,h.2.1⟩,h.2.2.1,h.2.2.2.1,h.2.2.2.2⟩)
 rw[if_neg d]at h;by_cases e:op=3
 ·rw[if_pos e,decide_eq_true_eq]at h;exact .inr (.inr (.inl ⟨e,⟨h.1,h.2.1⟩,h.2.2.1,h.2.2.2.1,h.2.2.2.2⟩))
 rw[if_neg e]at h;by_cases g:op=4
 ·rw[if_pos g,decide_eq_true_eq]at h;refine .inr (.inr (.inr (.inl ⟨g,?_⟩)));rcases h with⟨a,_,b⟩|⟨a,b⟩
  ·exact .inl ⟨a,b⟩
  ·exact .inr ⟨a,b⟩
 rw[if_neg g]at h;by_cases i:op=5
 ·rw[if_pos i,decide_eq_true_eq]at h;exact .inr (.inr (.inr (.inr (.inl ⟨i,h.1,h.2⟩))))
 rw[if_neg i]at h;by_cases j:op=6
 ·rw[if_pos j,decide_eq_true_eq]at h;exact .inr (.inr (.inr (.inr (.inr (.inl ⟨j,h.1,h.2⟩)))))
 rw[if_neg j]at h;by_cases k:op=7
 ·rw[if_pos k,decide_eq_true_eq]at h;exact .inr (.inr (.inr (.inr (.inr (.inr ⟨k,h.1,h.2.1⟩)))))
 rw[if_neg k]at h;cases h
theorem AjA{V:List Int}{x:Nd}(h:x.tag=21\/x.tag=22\/x.tag=23\/x.tag=24\/x.tag=25)(h2:isZ V x≠ -1):isZ V x=2:=by
 unfold isZ at h2|-;rw[if_neg (by omega),if_neg (by omega),if_neg (by omega),if_neg (by omega),if_neg (by omega),if_neg (by omega),if_neg (by omega),if_neg (by omega)]at h2|-;by_cases a:x.tag=21
 ·rw[if_pos a]at h2|-;split at h2
  ·rename_i c;rw[if_pos c]
  ·exact absurd rfl h2
 ·rw[if_neg a]at h2|-;by_cases b:x.tag=22
  ·rw[if_pos b]at h2|-;split at h2
   ·rename_i c;rw[if_pos c]
   ·exact absurd rfl h2
  ·rw[if_neg b]
theorem Ag8 (V:List Int){x:Nd}{n:Nat}(h:x.tag=23\/x.tag=24):∃r,Q8 V x n=1::r:=by
 unfold Q8;rw[if_neg (by omega),if_neg (by omega),if_neg (by omega),if_neg (by omega),if_neg (by omega)];rcases h with h|h
 ·rw[if_pos h];exact⟨_,rfl⟩
 ·rw[if_neg (by omega),if_pos h];exact⟨_,rfl⟩
theorem VE (V:List Int){x:Nd}{n:Nat}(h:x.tag=1\/x.tag=2\/x.tag=26):Q8 V x n=[]:=by
 unfold Q8;rw[if_neg (by omega),if_neg (by omega),if_neg (by omega),if_neg (by omega),if_neg (by omega),if_neg (by omega),if_neg (by omega),if_pos (by omega)]
theorem Akt (V:List Int){x:Nd}{n:Nat}(h:x.tag=25):Q8 V x n=[0]:=by
 unfold Q8;rw[if_pos (by omega)]
theorem Aks (V:List Int){x:Nd}{n:Nat}(h:x.tag=6):Q8 V x n=[1]:=by
 unfold Q8;rw[if_neg (by omega),if_pos h]
theorem isZ_t{V:List Int}{x:Nd}:(x.tag=1->isZ V x=0)/\(x.tag=2->isZ V x=1)/\(x.tag=6->isZ V x=1)/\(x.tag=26->isZ V x=2)/\(7<=x.tag/\x.tag<=11->isZ V x=0)/\(12<=x.tag/\x.tag<=19->isZ V x=1):=by
 unfold isZ;refine⟨λh=>?_,λh=>?_,λh=>?_,λh=>?_,λh=>?_,λh=>?_⟩
 ·rw[if_pos h]
 ·rw[if_neg (by omega),if_pos h]
 ·rw[if_neg (by omega),if_neg (by omega),if_neg (by omega),if_neg (by omega),if_neg (by omega),if_pos h]
 ·rw[if_neg (by omega),if_neg (by omega),if_neg (by omega),if_neg (by omega),if_neg (by omega),if_neg (by omega),if_neg (by omega),if_neg (by omega),if_neg (by omega),if_neg (by omega)]
 ·rw[if_neg (by omega),if_neg (by omega),if_neg (by omega),if_neg (by omega),if_neg (by omega),if_neg (by omega),if_pos h]
 ·rw[if_neg (by omega),if_neg (by omega),if_neg (by omega),if_neg (by omega),if_neg (by omega),if_neg (by omega),if_neg (by omega),if_pos h]
theorem X8 (V:List Int){x:Nd}{n:Nat}:(7<=x.tag/\x.tag<=17->Q8 V x n=[0,0])/\(18<=x.tag/\x.tag<=19->Q8 V x n=[1,1]):=by
 unfold Q8;refine⟨λh=>?_,λh=>?_⟩
 ·rw[if_neg (by omega),if_neg (by omega),if_pos (by omega)]
 ·rw[if_neg (by omega),if_neg (by omega),if_neg (by omega),if_pos (by omega)]
theorem AaN{x:Nd}(h:¬x.tag=23)(h2:¬x.tag=24):JZ x=false:=by unfold JZ;simp[h,h2]
theorem AkS{V:List Int}{k:Tr}{y:Nd}{op n:Int}(hk:k.fits)(ht:ofT V k≠ -1)(hc:isC k.root y op n=true)(hn:k.root.tag=2->k.root.n=0\/k.root.n=1):
 (chT op n k).fits/\ofT V (chT op n k)=ofT V k/\AgH (chT op n k).root.tag k.root.tag:=by
 obtain⟨x,i⟩:=k;obtain⟨h1,z,g,l⟩:=V8 ht;have m:=hk.len;have a:=hk.kids;have p:(Tr.node x i).root=x:=rfl;rw[p]at hc hn
 have hb:∀t:Int,(7<=x.tag/\x.tag<=19)->7<=t/\t<=19->(Q8 V x i.length=Q8 V ⟨t,x.n⟩ i.length)->isZ V x=isZ V ⟨t,x.n⟩->(Tr.node ⟨t,x.n⟩ i).fits/\ofT V (.node ⟨t,x.n⟩ i)=ofT V (.node x i)/\AgH t x.tag:=by
  intro t v w b hi;have ac:=Ahp v (by omega);have z:Qy x=2:=Aag (t:=x.tag) (n:=x.n) (Adi v) (by omega) (by omega) (by omega);refine⟨.mk _ _ ?_ a,?_,.inr ⟨by omega,by omega⟩⟩
  ·rw[Aag (Adi w) (by omega) (by omega) (by omega), <-m,z]
  ·rw[ofT,ofT, <-b, <-hi,AaN (x:=⟨t,x.n⟩) (by simp only;omega) (by simp only;omega),AaN (x:=x) (by omega) (by omega)]
 rcases VY hc with⟨rfl,v,w,h8,_⟩|⟨rfl,v,w,h8,_⟩|⟨rfl,v,w,h8,_⟩|⟨rfl,h⟩|⟨rfl,h,rfl⟩|⟨rfl,h,rfl⟩|⟨rfl,h,_⟩
 ·rw[chT,if_pos (by decide)];exact hb n (by omega) (by omega) (by rw[(X8 V).1 (by omega),(X8 V).1 (by simp only;omega)]) (by rw[isZ_t.2.2.2.2.1 (by omega),isZ_t.2.2.2.2.1 (by simp only;omega)])
 ·rw[chT,if_pos (by decide)];exact hb n (by omega) (by omega) (by rw[(X8 V).1 (by omega),(X8 V).1 (by simp only;omega)]) (by rw[isZ_t.2.2.2.2.2 (by omega),isZ_t.2.2.2.2.2 (by simp only;omega)])
 ·rw[chT,if_pos (by decide)];exact hb n (by omega) (by omega) (by rw[(X8 V).2 (by omega),(X8 V).2 (by simp only;omega)]) (by rw[isZ_t.2.2.2.2.2 (by omega),isZ_t.2.2.2.2.2 (by simp only;omega)])
 ·rw[chT,if_neg (by decide),if_pos rfl];have b:Q8 V x i.length=[]:=VE V (by omega);have aa:Q8 V ⟨x.tag,n⟩ i.length=[]:=VE V (by simp only;omega);rw[b]at g;have s:i=[]:=L3 (by simpa using g.symm);subst s;refine⟨.mk _ _ ?_ a,?_,.inl rfl⟩
  ·rcases h with⟨h,_⟩|⟨h,h5⟩
   ·unfold Qy;rw[if_pos h];rfl
   ·have hl:QX ⟨x.tag,n⟩=(1,0):=by unfold QX;rw[if_pos h]
    have ab:n=0\/n=1:=by
     rw[h5];unfold wrap64;rcases hn h with e|e<;>rw[e]<;>omega
    rw[Aag hl (by omega) (by omega) (by omega)];rfl
  ·have hi:isZ V ⟨x.tag,n⟩=isZ V x:=by
     rcases h with⟨h,_⟩|⟨h,_⟩
     ·rw[(isZ_t (x:=x)).1 h,(isZ_t (x:=⟨x.tag,n⟩)).1 h]
     ·rw[(isZ_t (x:=x)).2.1 h,(isZ_t (x:=⟨x.tag,n⟩)).2.1 h]
   rw[ofT,ofT,b,aa,hi];simp[Q1]
 ·rw[chT,if_neg (by decide),if_neg (by decide),if_pos rfl];refine⟨.mk _ _ (by decide) (λk hk=>by cases hk),?_,.inr ⟨by show ¬(26:Int)=20;decide,by show ¬x.tag=20;omega⟩⟩;rw[h1,AjA h z,ofT,VE V (by simp),isZ_t.2.2.2.1 rfl];simp[Q1]
 ·rw[chT,if_neg (by decide),if_neg (by decide),if_neg (by decide),if_pos rfl];obtain⟨ws,b⟩:=Ag8 V (n:=i.length) h;rw[b]at g l
  match i,m,a,g,l,b with
  |[],_,_,g,_,_=>simp at g
  |c::r,m,a,g,l,b=>
   have j:ofT V c=1:=Ue l 0 c 1 rfl rfl;refine⟨.mk _ _ m λk hk=>?_,?_,.inl rfl⟩
   ·rcases L6.1 hk with rfl|hk
    ·exact .mk _ _ (show Qy ⟨6,0⟩=((1:Nat):Int) by decide) λk hk=>by rw[L8.1 hk];exact a c (by simp)
    ·exact a k (by simp[hk])
   ·have u:ofT V (.node ⟨6,0⟩ [c])=1:=by
      rw[ofT,Aks V rfl,isZ_t.2.2.1 rfl];simp[Q1,j,AaN]
    rw[ofT,ofT,b];have hl:((Tr.node ⟨6,0⟩ [c])::r).length=(c::r).length:=rfl;rw[Amo,hl,b]
    have o:Q1 V (JZ x) true ((Tr.node ⟨6,0⟩ [c])::r) (1::ws)=Q1 V (JZ x) true (c::r) (1::ws):=by
     rw[Q1,Q1,u,j];simp
    rw[o]
 ·rw[chT,if_neg (by decide),if_neg (by decide),if_neg (by decide),if_neg (by decide)];have b:Q8 V x i.length=[0]:=Akt V h;rw[b]at g l
  match i,m,a,g,l,b with
  |[],_,_,g,_,_=>simp at g
  |c::d::r,_,_,g,_,_=>simp at g
  |[c],m,a,g,l,b=>
   have j:ofT V c=0:=Ue l 0 c 0 rfl rfl;refine⟨.mk _ _ m λk hk=>?_,?_,.inl rfl⟩
   ·rw[L8.1 hk];exact .mk _ _ (by unfold Qy;rfl) λk hk=>by cases hk
   ·have q:ofT V (.node ⟨1,n⟩ [])=0:=by
      rw[ofT,VE V (by simp),isZ_t.1 rfl];simp[Q1]
    rw[ofT,ofT];show(if isZ V x= -1\/(Q8 V x 1).length≠1 then _ else _)=(if isZ V x= -1\/(Q8 V x 1).length≠1 then _ else _)
    have o:Q1 V (JZ x) true [(Tr.node ⟨1,n⟩ [])] (Q8 V x 1)=Q1 V (JZ x) true [c] (Q8 V x 1):=by
     rw[show Q8 V x 1=[0]from b];simp[Q1,q,j]
    rw[show Q8 V x [Tr.node ⟨1,n⟩ []].length=Q8 V x 1 from rfl,show Q8 V x [c].length=Q8 V x 1 from rfl,o]
theorem AiM{l a b:List Nd}{k:Tr}{op n:Int}{V:List Int}{y:Nd}(h:l=a++(k.flat++b))(hk:k.fits)(ht:ofT V k≠ -1)(hc:isC k.root y op n=true):AiL l a.length k op n=a++((chT op n k).flat++b):=by
 obtain⟨x,e⟩:=k;obtain⟨_,_,o,_⟩:=V8 ht;have d:(Tr.node x e).root=x:=rfl;rw[d]at hc;have g:l.take a.length=a:=by rw[h];simp
 have i:l.drop (a.length+1)=QM e++b:=by rw[h,Tr.flat];simp
 have j:l.drop (a.length+(Tr.node x e).size)=b:=by
  rw[h, <-L4];exact Nh (by simp[Tr.size])
 have m:l.take (a.length+1)=a++[x]:=by
  rw[h,Tr.flat,show a++(x::QM e++b)=(a++[x])++(QM e++b) by simp];exact Ng (by simp)
 unfold AiL AmS AmL;rw[d];rcases VY hc with⟨rfl,_⟩|⟨rfl,_⟩|⟨rfl,_⟩|⟨rfl,h⟩|⟨rfl,h,rfl⟩|⟨rfl,h,rfl⟩|⟨rfl,h,_⟩
 ·rw[chT,if_pos (by decide),if_pos (by decide),g,i,Tr.flat];simp
 ·rw[chT,if_pos (by decide),if_pos (by decide),g,i,Tr.flat];simp
 ·rw[chT,if_pos (by decide),if_pos (by decide),g,i,Tr.flat];simp
 ·rw[chT,if_neg (by decide),if_pos rfl,if_neg (by decide),if_pos rfl,g,i,Tr.flat];simp
 ·rw[chT,if_neg (by decide),if_neg (by decide),if_pos rfl,if_neg (by decide),if_neg (by decide),if_pos rfl,g,j,Tr.flat];simp[QM]
 ·rw[chT,if_neg (by decide),if_neg (by decide),if_neg (by decide),if_pos rfl,if_neg (by decide),if_neg (by decide),if_neg (by decide),if_pos rfl];simp only;rw[m,i,Tr.flat];obtain⟨q,p⟩:=Ag8 V (n:=e.length) h;rw[p]at o
  match e,o with
  |c::r,_=>simp[Amo,QM,Tr.flat]
 ·rw[chT,if_neg (by decide),if_neg (by decide),if_neg (by decide),if_neg (by decide),if_neg (by decide),if_neg (by decide),if_neg (by decide),if_neg (by decide)];simp only;rw[m,j,Tr.flat];simp[QM,Tr.flat]
theorem Akm{x:Nd}{ks:List Tr}(h:(Tr.node x ks).fits)(h2:x.tag=2):x.n=0\/x.n=1:=by
 have d:=h.len;obtain⟨a,b⟩:=x;simp only at h2;subst h2;by_cases e:b<0\/1<b
 ·have c:Qy ⟨2,b⟩= -1:=by
    unfold Qy;rw[if_neg (by simp),show QX ⟨2,b⟩=(1,0)from by unfold QX;rw[if_pos rfl],if_pos e]
  rw[c]at d;omega
 ·simp only;omega
theorem Good.typed{p:PgV}{t:Tr}(h:Good p t):ofT p.V t≠ -1:=by rw[h.kind];decide
theorem Good.change{p:PgV}{t:Tr}(h:Good p t){d:Dl}(hd:d∈KC p.body t):∃q k,ZX d.path 0 t=some (q,k)/\At p.body q k/\ofT p.V k≠ -1/\isC k.root (VZ p.body (q+1)) d.op d.n=true/\VZ p.body q=k.root/\
 ∀m:PgV,m.params=p.params->m.V=p.V->m.body=AiL p.body q k d.op d.n->Good m (Ym (chT d.op d.n) d.path t):=by
 obtain⟨q,k,g,hc⟩:=allZ_mem.1 hd;have hat:=AaE h.hat g
 have o:VZ p.body q=k.root:=by
  obtain⟨r,u⟩:=hat.here
  have:p.body[q]? =some k.root:=by
   have:=congrArg (·[0]?) u;obtain⟨x,ks⟩:=k;simpa[Ni,Tr.flat,Tr.root]using this
  unfold VZ;rw[this];rfl
 have i:=AaF h.hat.fits g;have j:=Ex h.typed g
 have w:k.root.tag=2->k.root.n=0\/k.root.n=1:=by
  obtain⟨x,ks⟩:=k;exact Akm i
 have e:isC k.root (VZ p.body (q+1)) d.op d.n=true:=by
  have l:(d.op,d.n)∈Z7 (VZ p.body q) (VZ p.body (q+1)):=hc;rw[o]at l;exact(Ac6 w).1 l
 refine⟨q,k,g,hat,j,e,o,λm m1 m2 m3=>?_⟩;obtain⟨c1,c2,c3⟩:=AkS i j e w;obtain⟨k1,s⟩:=AcT g c2 c3;obtain⟨a,b,f1,f2,f3⟩:=AaG _ _ _ _ _ g
 have c:p.body=t.flat:=by
  obtain⟨r,u⟩:=h.hat.here;have y:=congrArg List.length u;have hs:=h.size;rw[La]at y;have:t.flat.length=p.body.length:=hs;have v:r=[]:=L3 (by simp at y;omega);subst v;simpa using u
 have hq:q=a.length:=by omega
 subst hq
 have z:m.body=(Ym (chT d.op d.n) d.path t).flat:=by
  rw[m3,f3,AiM (c.trans f1) i j e]
 refine⟨⟨AcS h.hat.fits g (λ_=>c1),[],?_⟩,?_,?_,?_,?_⟩
 ·rw[z];simp
 ·rw[z];rfl
 ·rw[m1,m2];exact h.vars
 ·rcases s with s|⟨_,s⟩
  ·rw[s,h.tag]
  ·exact absurd h.tag s
 ·rw[m2,k1,h.kind]
end Go.Proofs.YtgnmkiafeplbpaaGreatDoor
namespace Go.Proofs.YtgnmkiafeplbpaaGreatDoor
open Go.RowKit Go.Deep
def Cd.cv (x:Cd):CpV:=⟨⟨x.params,none,0,x.V,none,0,x.body⟩,none,0,x.tests.map λl=>⟨none,0,l⟩,x.fuel,none,0,x.muts.map λm=>⟨none,0,m⟩,x.sc⟩
theorem AaU{α β:Type}{f:α->β}{g:β->α}(h:∀x,g (f x)=x):∀l:List α,(l.map f).map g=l
 |[]=>rfl
 |x::l=>by rw[No,No,h,AaU h l]
theorem Cd.cv_data (x:Cd):x.cv.data=x:=by
 obtain⟨p,V,b,d,f,a,c⟩:=x;unfold CpV.data Cd.cv CpV.testsL CpV.muts;dsimp only;rw[AaU (f:=λl:List Int=>(⟨none,0,l⟩:IntsV)) (g:=IntsV.l) (λ_=>rfl),AaU (f:=λm:Mt=>(⟨none,0,m⟩:MtV)) (g:=MtV.m) (λ_=>rfl)]
theorem Afo{a b:CpV}(h:a.data=b.data):QQ a=QQ b:=by
 have g:∀c:CpV,QQ c=orL [QH (QP c.p==0) 23,Zk c.p.params c.testsL c.fuel,QH (decide ((c.muts.length:Int)<=2000)) 24,QH (YX c.muts) 20,QH (!c.muts.any λm=> !inP c.p m.d) 17,QH (!c.muts.any λm=>AaW c.testsL.length m) 21,QH (scB c.sc (Zf c.muts)) 22]:=by
  intro c;unfold QQ;have n:c.muts.length=c.mts.length:=by unfold CpV.muts;rw[L7]
  have o:c.testsL.length=c.tests.length:=by unfold CpV.testsL;rw[L7]
  have j:∀f:Mt->Bool,c.muts.any f=c.mts.any λx=>f x.m:=λf=>by unfold CpV.muts;rw[List.any_map];rfl
  rw[n,o,j,j]
 obtain⟨⟨i,k,l⟩,q,s,t,u⟩:=data_iff.1 h;rw[g,g,Xl i k l,i,q,s,t,u];have e:∀m:Mt,inP a.p m.d=inP b.p m.d:=λm=>Ael i k l m.d
 simp only[e]
noncomputable def Jl (x:Cd):Int:=QQ x.cv
theorem Jd (c:CpV):Jl c.data=QQ c:=Afo (Cd.cv_data _)
def Cd.pd (x:Cd):Pd:=⟨x.params,x.V,x.body⟩
def Cd.su (x:Cd):Su:=(x.tests,x.fuel)
structure IntD (x:Cd):Prop where
 body:∀y∈x.body,InI y.n
 tests:∀l∈x.tests,∀n∈l,InI n
 muts:∀m∈x.muts,InI m.d.n/\InI m.value
def ZR (x:Cd):List Sec:=[⟨1,JD x.pd⟩,⟨2,Jt x.su⟩,⟨3,ZC x.muts⟩,⟨4,Kj x.sc⟩]
noncomputable def Jn (x:Cd):List UInt8×Int:=if Jl x≠0 then([],Jl x)else K8 (ZR x)
def J7:Cd:=⟨0,[],[],[],0,[],⟨0,0,0⟩⟩
def Z0 (l:List Sec)(k:Nat):List UInt8:=(l.getD k ⟨0,[]⟩).d
noncomputable def arC (l:List Sec):Cd:=⟨(XR (Z0 l 0)).1.params,(XR (Z0 l 0)).1.V,(XR (Z0 l 0)).1.body,(Yq (Z0 l 1)).1.1,(Yq (Z0 l 1)).1.2,(JP (Z0 l 2)).1,(YH (Z0 l 3)).1⟩
noncomputable def arL (l:List Sec):Cd×Int:=if l.map Sec.t≠[1,2,3,4]then(J7,12)else if (XR (Z0 l 0)).2≠0 then(J7,23)else if (Yq (Z0 l 1)).2≠0 then(J7,18)else if (JP (Z0 l 2)).2≠0 then(J7,24)else
 if (YH (Z0 l 3)).2≠0 then(J7,22)else if Jl (arC l)≠0 then(J7,Jl (arC l))else(arC l,0)
noncomputable def ZF (s:List UInt8):Cd×Int:=if (Z8 s).2≠0 then(J7,(Z8 s).2)else arL (Z8 s).1
theorem Aax (l:List Mt)(v:Int):0<=ZM l v/\ZM l v<=l.length:=by
 unfold ZM;have:=Nu (λm:Mt=>m.verdict==v) l;omega
theorem Ad4:∀{ks:List Tr} {k:Tr},k∈ks->Xg k<=depK ks
 |[],_,h=>by cases h
 |t::ts,k,h=>by
  rw[depK]
  rcases L6.1 h with rfl|h
  ·omega
  ·have:=Ad4 h;omega
theorem Uq:∀{ks:List Tr} {k:Tr},k∈ks->k.size<=(QM ks).length
 |[],_,h=>by cases h
 |t::ts,k,h=>by
  rw[QM,La]
  rcases L6.1 h with rfl|h
  ·unfold Tr.size;omega
  ·have:=Uq h;omega
theorem AaQ:∀ks:List Tr,ks.length<=(QM ks).length
 |[]=>by simp
 | .node x js::ts=>by
  have:=AaQ ts
  rw[QM,La,Tr.flat,Le,Le]
  omega
theorem Aeb:∀{π:List Int} {q r:Nat} {t k:Tr},ZX π q t=some (r,k)->(π.length:Int)<Xg t/\∀i∈π,0<=i/\i<t.size
 |[],q,r,t,k,h=>by
  obtain⟨x,ks⟩:=t
  have:=EZ ks
  refine⟨by rw[Xg];simp only[Ll];omega,λi hi=>by cases hi⟩
 |i::π,q,r,.node x ks,k,h=>by
  have h0:¬i<0:=by
   intro hi;rw[ZX,if_pos hi]at h;cases h
  obtain⟨s,u,p,b,e⟩:=K0 h
  obtain⟨o,d⟩:=Aeb e
  have c:=Li b
  have l:=Ad4 c
  have m:=Uq c
  have n:=AaQ ks
  have hi:=(Lf.1 b).1
  have g:(Tr.node x ks).size=(QM ks).length+1:=by unfold Tr.size;rw[Tr.flat,Le]
  refine⟨by rw[Xg,Le];omega,λj a=>?_⟩
  rw[g]
  rcases L6.1 a with rfl|a
  ·omega
  ·have:=d j a;omega
open Classical in
theorem AhR{p:PgV}{d:Dl}(h:inP p d=true):Zg d=true:=by
 unfold inP at h;rw[decide_eq_true_eq]at h;obtain⟨t,a,j⟩:=h;obtain⟨q,k,g,o,s,i,_⟩:=a.good.change j;obtain⟨m,b⟩:=Aeb g;have v:=a.good.size;have u:=a.len;have l:=a.dep;refine rightDl_iff.2 ⟨by omega,λn c=>⟨(b n c).1,by have:=(b n c).2;omega⟩,?_⟩;rcases VY i with⟨e,_⟩|⟨e,_⟩|⟨e,_⟩|⟨e,_⟩|⟨e,_⟩|⟨e,_⟩|⟨e,_⟩<;>omega
structure PutD (x:Cd):Prop where
 pd:Afb x.pd
 su:AkL x.su
 wd:(ZV x.su:Int)=x.params
 ms:AdH x.muts
 sc:Ea x.sc
theorem Ahr{x:Cd}(h:Jl x=0):OkC x.cv:=okC.1 h
theorem EX (x:Cd):x.cv.muts=x.muts:=congrArg Cd.muts x.cv_data
theorem Aja (x:Cd):x.cv.testsL=x.tests:=congrArg Cd.tests x.cv_data
theorem Amq{x:Cd}(h:Jl x=0)(hi:IntD x):PutD x:=by
 have g:=Ahr h;have o:=g.suite;rw[Aja]at o;obtain⟨⟨t,y⟩,u,z,s5⟩:=X6 o;have s:QP x.pd.pg=0:=by rw[<-g.prog];exact Xl rfl rfl rfl
 have i:Afb x.pd:=⟨s,hi.body⟩;obtain⟨⟨v,w⟩,_⟩:=Yh i
 have p:(ZV x.su:Int)=x.params:=by
  show(((x.tests.headD []).length:Nat):Int)=x.params
  match ht:x.tests,t with
  |a::l,_=>exact u a (by rw[ht];simp)
 have d:=g.len;rw[EX]at d
 have n:AdH x.muts:=⟨d,λm k=>by
  have q:=g.inp m (by rw[EX];exact k)
  have j:=g.odd m (by rw[EX];exact k)
  unfold AaW at j
  rw[Bool.or_eq_false_iff]at j
  exact⟨fineM_iff.2 ⟨AhR q,by simpa using j.1⟩,hi.muts m k⟩⟩
 refine⟨i,⟨by have:x.pd.params=x.params:=rfl;omega,?_,hi.tests⟩,p,n,?_⟩
 ·show Zk (ZV x.su) x.tests x.fuel=0;rw[p];exact o
 ·have e:x.sc=Zf x.muts:=by rw[<-EX];exact g.sc
  rw[e];have a:=Aax x.muts 0;have b:=Aax x.muts 1;have c:=Aax x.muts 2;show Ea ⟨ZM x.muts 0,ZM x.muts 1,ZM x.muts 2⟩;unfold Ea;dsimp only;omega
theorem Aka (x:Cd):Kk (ZR x)=true:=by
 unfold Kk ZR;simp[J9]
theorem Y8{α:Type}{f:α->List UInt8}{k:Nat}:∀{l:List α},(∀a∈l,(f a).length<=k)->(l.flatMap f).length<=k*l.length
 |[],_=>by simp
 |a::l,h=>by
  have h1:=h a (by simp)
  have h2:=Y8 (f:=f) (l:=l) λb hb=>h b (by simp[hb])
  rw[LF,La,Le,Nat.mul_add]
  omega
theorem AjJ (y:Nd):(UF y).length<=10:=by
 unfold UF;split
 ·exact Et _
 ·split
  ·exact Qz _
  ·simp
theorem Acg{x:Cd}(h:Jl x=0)(hi:IntD x):(Qq (ZR x)).length<=780000:=by
 have a:=Amq h hi;obtain⟨⟨p0,p1⟩,q1,q2,q3,q4⟩:=Yh a.pd;have q:=X6 a.su.2.1
 have u:(JD x.pd).length<=10+(10+(12+(10+11*200))):=by
  unfold JD;have b:=Qz x.pd.params.toNat;have c:=Qz x.pd.V.length;have d:=Qz x.pd.body.length;have e:=Y8 (f:=YA) (k:=1) (l:=x.pd.V) λ_ _=>Nat.le_refl 1
  have s:=Y8 (f:=JV) (k:=11) (l:=x.pd.body) λy _=>by unfold JV;have:=AjJ y;rw[Le];omega
  simp only[La];omega
 have v:(Jt x.su).length<=10+(10+(10+120*20)):=by
  unfold Jt;have b:=Qz x.su.2.toNat;have c:=Qz x.su.1.length;have d:=Qz (ZV x.su)
  have e:=Y8 (f:=JO) (k:=120) (l:=x.su.1) λr p=>by
   unfold JO;have g:=Y8 (f:=zz) (k:=10) (l:=r) λn _=>Et n
   have i:=q.2.1 r p;have j:=a.su.1;omega
  simp only[La];omega
 have w:(ZC x.muts).length<=10+385*2000:=by
  unfold ZC;have b:=Qz x.muts.length;have c:=Y8 (f:=Zd) (k:=385) (l:=x.muts) λm o=>Aca (a.ms.2 m o).1;have d:=a.ms.1;simp only[La];omega
 have z:(Kj x.sc).length<=30:=by
  unfold Kj;have b:=Qz x.sc.alive.toNat;have c:=Qz x.sc.killed.toNat;have d:=Qz x.sc.timeout.toNat;simp only[La];omega
 unfold Qq ZR;simp only[LF,List.flatMap_nil,La,Ll,Ua];unfold ZD Zt;have g:=Qz (JD x.pd).length;have i:=Qz (Jt x.su).length;have j:=Qz (ZC x.muts).length;have t:=Qz (Kj x.sc).length;simp only[Le];omega
theorem Acb{x:Cd}(h:Jl x=0)(hi:IntD x):∃s,Jn x=(s,0)/\s.length<=900000:=by
 have d:=Acg h hi
 have e:(ZS (ZR x)).length<=130:=by
  have a:∀n,(QC n).length<=10:=Qz;unfold ZS ZR;simp only[AaJ,La,Ll];have b:=a [(⟨1,JD x.pd⟩:Sec),⟨2,Jt x.su⟩,⟨3,ZC x.muts⟩,⟨4,Kj x.sc⟩].length;refine Lj (LX b (LX (a _) (LX (a _) (LX (a _) (LX (a _) (LX (a _) (LX (a _) (LX (a _) (LX (a _) (LX (a _) (LX (a _) (LX (a _) (LX (a _) (Nat.le_refl 0)))))))))))))) (by omega)
 have c:=Uy (ZR x);refine⟨frMagic++(Qq (ZR x)++Zh (ZR x)),?_,by rw[La,La,show frMagic.length=7 from rfl];omega⟩;unfold Jn K8;rw[if_neg (λk=>k h),if_neg (by rw[Aka];decide),if_neg (by omega)]
theorem Ala{x:Cd}{s:List UInt8}(h:Jn x=(s,0)):Jl x=0/\K8 (ZR x)=(s,0):=by
 unfold Jn at h;by_cases k:Jl x=0
 ·rw[if_neg (λh=>h k)]at h;exact⟨k,h⟩
 ·rw[if_pos k]at h;injection h with _ h;exact absurd h k
theorem Ahn (x:Cd):Z0 (ZR x) 0=JD x.pd/\Z0 (ZR x) 1=Jt x.su/\Z0 (ZR x) 2=ZC x.muts/\Z0 (ZR x) 3=Kj x.sc:=⟨rfl,rfl,rfl,rfl⟩
theorem EY{x:Cd}{s:List UInt8}(hi:IntD x)(h:Jn x=(s,0)):ZF s=(x,0):=by
 have a:Jl x=0:=by
  by_cases a:Jl x=0
  ·exact a
  ·unfold Jn at h;rw[if_pos a]at h;injection h
 have b:=Amq a hi;unfold Jn at h;rw[if_neg (λk=>k a)]at h;have o:=AcF h;obtain⟨c,d,e,g⟩:=Ahn x;have i:XR (JD x.pd)=(x.pd,0):=Jf (rd:=KH) (λ_ h=>YQ h) b.pd rfl;have j:Yq (Jt x.su)=(x.su,0):=Jf (rd:=Y0) (λ_ h=>Abs h) b.su rfl;have l:JP (ZC x.muts)=(x.muts,0):=Jf (rd:=ZA) (λ_ h=>XX h) b.ms rfl;have m:YH (Kj x.sc)=(x.sc,0):=Jf (rd:=Ej) (λy h=>Abl y h) b.sc rfl
 have n:arC (ZR x)=x:=by
  unfold arC;rw[c,d,e,g,i,j,l,m];rfl
 unfold ZF;rw[o,if_neg (λk=>k rfl)];unfold arL;rw[if_neg (λk=>k rfl),c,d,e,g,i,j,l,m,n,if_neg (λk=>k rfl),if_neg (λk=>k rfl),if_neg (λk=>k rfl),if_neg (λk=>k rfl),if_neg (λk=>k a)]
theorem Alc{x:Cd}{s:List UInt8}(h:ZF s=(x,0)):Jl x=0/\IntD x/\Jn x=(s,0):=by
 unfold ZF at h;by_cases c:¬(Z8 s).2=0
 ·rw[if_pos c]at h;injection h with _ h;exact absurd h c
 have c:=Classical.not_not.1 c;rw[if_neg (λk=>k c)]at h;have ho:Z8 s=((Z8 s).1,0):=by rw[<-c]
 have j:=AcO ho;obtain⟨l,hl⟩:∃l,(Z8 s).1=l:=⟨_,rfl⟩;rw[hl]at h j;unfold arL at h;by_cases a:¬l.map Sec.t=[1,2,3,4]
 ·rw[if_pos a]at h;injection h with _ h;cases h
 have a:=Classical.not_not.1 a;rw[if_neg (λk=>k a)]at h;by_cases d:¬(XR (Z0 l 0)).2=0
 ·rw[if_pos d]at h;injection h with _ h;cases h
 have d:=Classical.not_not.1 d;rw[if_neg (λk=>k d)]at h;by_cases e:¬(Yq (Z0 l 1)).2=0
 ·rw[if_pos e]at h;injection h with _ h;cases h
 have e:=Classical.not_not.1 e;rw[if_neg (λk=>k e)]at h;by_cases g:¬(JP (Z0 l 2)).2=0
 ·rw[if_pos g]at h;injection h with _ h;cases h
 have g:=Classical.not_not.1 g;rw[if_neg (λk=>k g)]at h;by_cases i:¬(YH (Z0 l 3)).2=0
 ·rw[if_pos i]at h;injection h with _ h;cases h
 have i:=Classical.not_not.1 i;rw[if_neg (λk=>k i)]at h;by_cases b:¬Jl (arC l)=0
 ·rw[if_pos b]at h;injection h with _ h;exact absurd h b
 have b:=Classical.not_not.1 b;rw[if_neg (λk=>k b)]at h;injection h with h _;subst h;obtain⟨o1,o⟩:=YI d;obtain⟨o3,p⟩:=YI e;obtain⟨o5,q⟩:=YI g;obtain⟨o7,u⟩:=YI i
 have n:ZR (arC l)=l:=by
  match l,a,o,p,q,u with
  |[],a,_,_,_,_=>simp at a
  |[_],a,_,_,_,_=>simp at a
  |[_,_],a,_,_,_,_=>simp at a
  |[_,_,_],a,_,_,_,_=>simp at a
  |_::_::_::_::_::_,a,_,_,_,_=>simp at a
  |[⟨t1,d1⟩,⟨t2,d2⟩,⟨t3,d3⟩,⟨t4,d4⟩],a,o,p,q,u=>
   simp only[No,List.map_nil,List.cons.injEq,and_true]at a;obtain⟨rfl,rfl,rfl,rfl⟩:=a;unfold ZR;have v:JD (arC [⟨1,d1⟩,⟨2,d2⟩,⟨3,d3⟩,⟨4,d4⟩]).pd=d1:=o;have w:Jt (arC [⟨1,d1⟩,⟨2,d2⟩,⟨3,d3⟩,⟨4,d4⟩]).su=d2:=p;have y:ZC (arC [⟨1,d1⟩,⟨2,d2⟩,⟨3,d3⟩,⟨4,d4⟩]).muts=d3:=q;have z:Kj (arC [⟨1,d1⟩,⟨2,d2⟩,⟨3,d3⟩,⟨4,d4⟩]).sc=d4:=u;rw[v,w,y,z]
 refine⟨b,⟨o1.2,o3.2.2,λm hm=>(o5.2 m hm).2⟩,?_⟩;unfold Jn;rw[if_neg (λk=>k b),n,j]
theorem Ak4{s:List UInt8}(h:(ZF s).2≠0):(ZF s).1=J7:=by
 unfold ZF arL at h|-
 repeat' split
 all_goals(first|rfl|skip)
 all_goals simp_all
theorem AhD{x y:Cd}{s:List UInt8}(hx:IntD x)(hy:IntD y)(h1:Jn x=(s,0))(h2:Jn y=(s,0)):x=y:=by
 have b:=EY hx h1;have a:=EY hy h2;rw[b]at a;exact congrArg Prod.fst a
theorem AfA (g1 g2 g4 g5:Nat):IntD (dE g1 g2 g4 g5 9).data:=
 ⟨λy hy=>by
  have hy:y∈bodyE:=hy
  simp only[bodyE,L6,LJ,or_false]at hy
  rcases hy with rfl|rfl|rfl<;>exact⟨by decide,by decide⟩,
 λl hl n hn=>by
  have hl:l∈[[1]]:=hl
  rw[L8.1 hl,L8]at hn
  rw[hn];exact⟨by decide,by decide⟩,
 λm hm=>by have hm:m∈([]:List Mt):=hm;cases hm⟩
theorem AkX:IntD cp0.data:=⟨λy hy=>(by have hy:y∈([]:List Nd):=hy;cases hy),λl hl=>(by have hl:l∈([]:List (List Int)):=hl;cases hl),λm hm=>(by have hm:m∈([]:List Mt):=hm;cases hm)⟩
theorem Ami (g1 g2 g4 g5:Nat):∃s l,Jn (dE g1 g2 g4 g5 9).data=(s,0)/\s.length<=900000/\ZF s=((dE g1 g2 g4 g5 9).data,0)/\Z8 s=(l,0)/\l.length=4:=by
 have a:Jl (dE g1 g2 g4 g5 9).data=0:=by rw[Jd];exact okC.2 (okD g1 g2 g4 g5 (.inl rfl))
 obtain⟨s,e,b⟩:=Acb a (AfA g1 g2 g4 g5);exact⟨s,ZR (dE g1 g2 g4 g5 9).data,e,b,EY (AfA _ _ _ _) e,AcF (Ala e).2,rfl⟩
theorem Alb:Jn cp0.data=([],23):=by
 unfold Jn;rw[Jd,AkW];rfl
theorem Ak5:ZF []=(J7,7):=rfl
section
variable {w:World} (A B C D E F G H I:World->Prop) [sA:St A] [sB:St B] [sC:St C] [sD:St D] [sE:St E] [sF:St F] [sG:St G] [sH:St H] [sI:St I]
theorem Yv (a:A w)(b:B w):∃S:World->Prop,St S/\Hid (S w)/\Hid (∀W,S W->A W)/\Hid (∀W,S W->B W):=⟨λW=>A W/\B W,inferInstance,⟨a,b⟩,λ_ h=>h.1,λ_ h=>h.2⟩
theorem Am9 (a:A w)(b:B w)(c:C w):∃S:World->Prop,St S/\Hid (S w)/\Hid (∀W,S W->A W)/\Hid (∀W,S W->B W)/\Hid (∀W,S W->C W):=⟨λW=>A W/\B W/\C W,inferInstance,⟨a,b,c⟩,λ_ h=>h.1,λ_ h=>h.2.1,λ_ h=>h.2.2⟩
theorem Ana (a:A w)(b:B w)(c:C w)(d:D w):∃S:World->Prop,St S/\Hid (S w)/\Hid (∀W,S W->A W)/\Hid (∀W,S W->B W)/\Hid (∀W,S W->C W)/\Hid (∀W,S W->D W):=⟨λW=>A W/\B W/\C W/\D W,inferInstance,⟨a,b,c,d⟩,λ_ h=>h.1,λ_ h=>h.2.1,λ_ h=>h.2.2.1,λ_ h=>h.2.2.2⟩
end
end Go.Proofs.YtgnmkiafeplbpaaGreatDoor
