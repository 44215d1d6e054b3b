/- Lemmas for ArAll. -/
import Derived.Test.YtgnmkiafeplbpaaGreatDoorZf1
import Derived.Lib.Hide
import Derived.IntWalk
set_option linter.unusedVariables false
set_option linter.unusedSimpArgs false
set_option maxRecDepth 100000
set_option maxHeartbeats 16000000
namespace Go.Proofs.YtgnmkiafeplbpaaGreatDoor
structure Nd where
 tag:Int
 n:Int
def QX (x:Nd):Int×Int:=
 if x.tag=2 then(1,0)else if x.tag=3 then(11,0)else if x.tag=4\/x.tag=21 then(11,1)else if x.tag=22 then(11,2)
 else if x.tag=5\/x.tag=6\/x.tag=25 then(0,1)else if x.tag=24 then(0,2)else if x.tag=20 then(200,x.n)else if x.tag=23 then(0,3)
 else if x.tag=26 then(0,0)else if 7<=x.tag/\x.tag<=19 then(0,2)else(-1, -1)
def Qy (x:Nd):Int:=if x.tag=1 then 0 else if x.n<0\/(QX x).1<x.n then-1 else(QX x).2
theorem AfV (x:Nd):(-1<=(QX x).2/\(QX x).2<=3)\/((QX x).1=200/\(QX x).2=x.n):=by
 unfold QX
 repeat' split
 all_goals(dsimp only;omega)
theorem XM (x:Nd): -1<=Qy x/\Qy x<=200:=by
 unfold Qy;have:=AfV x;split
 ·omega
 ·split
  ·omega
  ·omega
def JF:List Nd->Nat->Option Nat
 |_,0=>some 0
 |[],_+1=>none
 |x::xs,w+1=>if Qy x<0 then none else(JF xs (w+(Qy x).toNat)).map (· +1)
def endZ (l:List Nd)(at_:Int):Int:=if at_<0 then-1 else match JF (l.drop at_.toNat) 1 with|none=> -1|some c=>at_+c
def Zb (l:List Nd):Nat->Int->List Int
 |0,_=>[]
 |k+1,p=>p::Zb l k (endZ l p)
def kidsZ (l:List Nd)(at_:Int):List Int:=if endZ l at_<0 then []else Zb l (Qy ((l[at_.toNat]?).getD ⟨0,0⟩)).toNat (at_+1)
inductive Tr where
 |node (x:Nd) (kids:List Tr)
mutual
def Tr.flat:Tr->List Nd
 | .node x ks=>x::QM ks
def QM:List Tr->List Nd
 |[]=>[]
 |t::ts=>t.flat++QM ts
end
inductive Tr.fits:Tr->Prop
 |mk (x:Nd) (ks:List Tr) (h:Qy x=(ks.length:Int)) (hk:∀k∈ks,k.fits):Tr.fits (.node x ks)
theorem UW:∀(a b:List Tr),QM (a++b)=QM a++QM b
 |[],b=>by simp[QM]
 |t::a,b=>by simp[QM,UW a b]
theorem AaB:∀(n:Nat) (l:List Nd) (w c:Nat),l.length<=n->JF l w=some c->∃ts:List Tr,ts.length=w/\(∀t∈ts,t.fits)/\QM ts=l.take c
 |_,l,0,c,_,h=>by
  simp[JF]at h;subst h
  exact⟨[],rfl,λ_ h=>by simp at h,by simp[QM]⟩
 |_,[],w+1,c,_,h=>by simp[JF]at h
 |0,x::xs,w+1,c,hn,h=>by simp at hn
 |n+1,x::xs,w+1,c,hn,h=>by
  rw[JF]at h
  split at h
  ·cases h
  ·rename_i ha
   obtain⟨c',h1,rfl⟩:=Option.map_eq_some_iff.1 h
   obtain⟨ts,hl,hf,he⟩:=AaB n xs _ _ (by simpa using hn) h1
   refine⟨.node x (ts.take (Qy x).toNat)::ts.drop (Qy x).toNat,by simp[hl],λt ht=>?_,?_⟩
   ·rcases L6.1 ht with rfl|ht
    ·refine .mk x _ (by rw[LH,hl];omega) (λk hk=>hf k (List.mem_of_mem_take hk))
    ·exact hf t (List.mem_of_mem_drop ht)
   ·rw[QM,Tr.flat,Lk, <-UW,LC,he];rfl
mutual
theorem Acc (x:Nd)(ks:List Tr)(h:(Tr.node x ks).fits)(w:Nat)(rest:List Nd):JF ((Tr.node x ks).flat++rest) (w+1)=(JF rest w).map (· +(Tr.node x ks).flat.length):=by
 cases h with
 |mk _ _ ha hk=>
  rw[Tr.flat,Lk,JF,if_neg (by omega),ha,L0,N6 w ks.length,AaA ks hk w rest];cases JF rest w with
  |none=>rfl
  |some c=>simp;omega
theorem AaA:∀(ks:List Tr),(∀k∈ks,k.fits)->∀(w:Nat) (rest:List Nd),JF (QM ks++rest) (ks.length+w)=(JF rest w).map (· +(QM ks).length)
 |[],_,w,rest=>by
  simp[QM]
 | .node x ks'::ks,h,w,rest=>by
  rw[QM,L4,Le,show ks.length+1+w=(ks.length+w)+1 by omega,Acc x ks' (h _ (by simp)) _ _,AaA ks (λk hk=>h k (by simp[hk])) w rest]
  cases JF rest w with
  |none=>rfl
  |some c=>simp;omega
end
def Tr.root:Tr->Nd
 | .node x _=>x
def Tr.kids:Tr->List Tr
 | .node _ ks=>ks
def Tr.size (t:Tr):Nat:=t.flat.length
theorem Tr.flat_eq:∀t:Tr,t.flat=t.root::QM t.kids
 | .node _ _=>by rw[Tr.flat];rfl
theorem Tr.size_eq (t:Tr):t.size=(QM t.kids).length+1:=by rw[Tr.size,t.flat_eq];simp
theorem Tr.fits.arity{t:Tr}(h:t.fits):Qy t.root=(t.kids.length:Int):=by cases h;assumption
theorem Tr.fits.kid{t:Tr}(h:t.fits):∀k∈t.kids,k.fits:=by cases h;assumption
theorem Ald (t:Tr)(h:t.fits)(w:Nat)(rest:List Nd):JF (t.flat++rest) (w+1)=(JF rest w).map (· +t.flat.length):=by
 cases t;exact Acc _ _ h w rest
structure At (l:List Nd)(p:Nat)(t:Tr):Prop where
 fits:t.fits
 here:∃rest,l.drop p=t.flat++rest
structure Ats (l:List Nd)(p:Nat)(ts:List Tr):Prop where
 fits:∀t∈ts,t.fits
 here:∃rest,l.drop p=QM ts++rest
section
variable {l:List Nd} {p:Nat} {t:Tr} {ts:List Tr}
theorem At.le (h:At l p t):p+t.size<=l.length:=by
 obtain⟨a,e⟩:=h.here;have:=congrArg List.length e;rw[LN,La]at this;have b:t.size=t.flat.length:=rfl;have:=t.size_eq;omega
theorem At.lt (h:At l p t):p<l.length:=by have:=h.le;have:=t.size_eq;omega
theorem At.root (h:At l p t):l[p]? =some t.root:=by
 obtain⟨a,e⟩:=h.here;have:=congrArg List.head? e;rw[List.head?_drop,t.flat_eq]at this;simpa using this
theorem At.kids (h:At l p t):Ats l (p+1) t.kids:=by
 obtain⟨a,e⟩:=h.here;refine⟨h.fits.kid,a,?_⟩;rw[<-Nf,e,t.flat_eq];simp
theorem Ats.head{ts:List Tr}(h:Ats l p (t::ts)):At l p t:=by
 obtain⟨a,e⟩:=h.here;exact⟨h.fits t (by simp),QM ts++a,by rw[e,QM,L4]⟩
theorem Ats.tail{ts:List Tr}(h:Ats l p (t::ts)):Ats l (p+t.size) ts:=by
 obtain⟨a,e⟩:=h.here;refine⟨λk b=>h.fits k (by simp[b]),a,?_⟩;rw[<-Nf,e,QM,L4];simp[Tr.size]
theorem At.endZ (h:At l p t):endZ l (p:Int)=((p+t.size:Nat):Int):=by
 obtain⟨a,e⟩:=h.here;unfold Go.Proofs.YtgnmkiafeplbpaaGreatDoor.endZ;rw[if_neg (by omega),L0,e,show(1:Nat)=0+1 from rfl,Ald t h.fits 0 a];simp[JF,Tr.size]
theorem Aai{a:Int}(h:0<=endZ l a):∃t,At l a.toNat t/\0<=a:=by
 unfold Go.Proofs.YtgnmkiafeplbpaaGreatDoor.endZ at h;by_cases b:a<0
 ·rw[if_pos b]at h;omega
 ·rw[if_neg b]at h;cases hw:JF (l.drop a.toNat) 1 with
  |none=>rw[hw]at h;simp at h
  |some c=>
   obtain⟨i,g,e,d⟩:=AaB _ _ 1 c (Nat.le_refl _) hw
   match i,g with
   |[t],_=>
    refine⟨t,⟨e t (by simp),(l.drop a.toNat).drop c,?_⟩,by omega⟩;have:t.flat=(l.drop a.toNat).take c:=by simpa[QM]using d
    rw[this,LC]
theorem Ajf{a:Int}(h:a<0):endZ l a= -1:=by unfold Go.Proofs.YtgnmkiafeplbpaaGreatDoor.endZ;rw[if_pos h]
def Zm:Nat->List Tr->List Nat
 |_,[]=>[]
 |p,t::ts=>p::Zm (p+t.size) ts
theorem X4:∀(ts:List Tr) (p:Nat),(Zm p ts).length=ts.length
 |[],_=>rfl
 |t::ts,p=>by simp[Zm,X4 ts]
theorem Ve:∀{ts:List Tr} {p:Nat},Ats l p ts->Zb l ts.length (p:Int)=(Zm p ts).map λn:Nat=>(n:Int)
 |[],_,_=>rfl
 |t::ts,p,h=>by
  rw[Le,Zb,h.head.endZ,Ve h.tail,Zm];rfl
theorem At.kidsZ (h:At l p t):kidsZ l (p:Int)=(Zm (p+1) t.kids).map λn:Nat=>(n:Int):=by
 unfold Go.Proofs.YtgnmkiafeplbpaaGreatDoor.kidsZ;rw[h.endZ,if_neg (by omega),L0,h.root,Nx,h.fits.arity,L0];have:=Ve h.kids;rw[<-this];rfl
theorem Ats.spot:∀{ts:List Tr} {p:Nat},Ats l p ts->∀(i q:Nat) (k:Tr),(Zm p ts)[i]? =some q->ts[i]? =some k->At l q k/\p<=q
 |[],_,_,i,q,k,h,_=>by simp[Zm]at h
 |t::ts,p,h,0,q,k,h1,h2=>by
  simp[Zm]at h1 h2;subst h1 h2;exact⟨h.head,Nat.le_refl _⟩
 |t::ts,p,h,i+1,q,k,h1,h2=>by
  simp[Zm]at h1 h2
  obtain⟨a,b⟩:=h.tail.spot i q k h1 h2
  exact⟨a,by omega⟩
end
def Xa (t:Int):Int:=if 2<=t/\t<=9 then t-1 else 0
def Ks (V:List Int)(n:Int):Bool:=match V[n.toNat]? with|some t=>t==0 || t==1|none=>false
def VN (V:List Int)(n:Int):Bool:=match V[n.toNat]? with|some t=>Xa t != 0|none=>false
def isZ (V:List Int)(x:Nd):Int:=
 if x.tag=1 then 0 else if x.tag=2 then 1 else if x.tag=3 then(if Ks V x.n then(V[x.n.toNat]?).getD 0 else-1)
 else if x.tag=4 then(if VN V x.n then 0 else-1)else if x.tag=5 then 0 else if x.tag=6 then 1
 else if 7<=x.tag/\x.tag<=11 then 0 else if 12<=x.tag/\x.tag<=19 then 1
 else if x.tag=21 then(if Ks V x.n then 2 else-1)else if x.tag=22 then(if VN V x.n then 2 else-1)else 2
def Q8 (V:List Int)(x:Nd)(n:Nat):List Int:=
 if x.tag=4\/x.tag=5\/x.tag=25 then [0]else if x.tag=6 then [1]else if 7<=x.tag/\x.tag<=17\/x.tag=22 then [0,0]else if x.tag=18\/x.tag=19 then [1,1]
 else if x.tag=21 then [(V[x.n.toNat]?).getD 0]else if x.tag=23 then [1,2,2]else if x.tag=24 then [1,2]
 else if x.tag=1\/x.tag=2\/x.tag=3\/x.tag=26 then []else List.replicate n 2
def JZ (x:Nd):Bool:=x.tag==23 || x.tag==24
mutual
def ofT (V:List Int):Tr->Int
 | .node x ks=>if isZ V x= -1\/(Q8 V x ks.length).length≠ks.length then-1 else if Q1 V (JZ x) true ks (Q8 V x ks.length)then isZ V x else-1
def Q1 (V:List Int)(inn:Bool)(first:Bool):List Tr->List Int->Bool
 |[],_=>true
 |_::_,[]=>true
 |t::ts,k::ks=>ofT V t==k && (!(inn && !first) || t.root.tag==20) && Q1 V inn false ts ks
end
theorem Aa3{V:List Int}{n:Int}(h:Ks V n=true):∃t,V[n.toNat]? =some t/\(t=0\/t=1):=by
 unfold Ks at h;split at h
 ·rename_i t a;exact⟨t,a,by simpa using h⟩
 ·cases h
theorem V8{V:List Int}{x:Nd}{ks:List Tr}(h:ofT V (.node x ks)≠ -1):ofT V (.node x ks)=isZ V x/\isZ V x≠ -1/\(Q8 V x ks.length).length=ks.length/\Q1 V (JZ x) true ks (Q8 V x ks.length)=true:=by
 rw[ofT]at h|-;split at h
 ·exact absurd rfl h
 ·rename_i a;split at h
  ·rename_i b;rw[if_neg a,if_pos b];exact⟨rfl,λe=>a (.inl e),Classical.byContradiction λe=>a (.inr e),b⟩
  ·exact absurd rfl h
theorem Ue{V:List Int}{inn:Bool}:∀{ts:List Tr} {ks:List Int} {f:Bool},Q1 V inn f ts ks=true->∀(i:Nat) (t:Tr) (k:Int),ts[i]? =some t->ks[i]? =some k->ofT V t=k
 |[],_,_,_,i,t,k,h,_=>by simp at h
 |_::_,[],_,_,i,t,k,_,h=>by simp at h
 |t::ts,k::ks,f,h,0,t',k',h1,h2=>by
  rw[Q1]at h
  simp at h h1 h2;subst h1 h2;exact h.1.1
 |t::ts,k::ks,f,h,i+1,t',k',h1,h2=>by
  rw[Q1]at h
  simp at h h1 h2;exact Ue h.2 i t' k' h1 h2
end Go.Proofs.YtgnmkiafeplbpaaGreatDoor
namespace Go.Proofs.YtgnmkiafeplbpaaGreatDoor
open Go.RowKit
structure Ms where
 vals:List Int
 arrs:List (List Int)
 fuel:Nat
 steps:Nat
 evs:List EvV
 out:Option (Int×Int)
def Ms.stop (s:Ms)(k v:Int):Ms:={ s with out:=some (k,v) }
def Ms.tick (s:Ms):Ms:={ s with fuel:=s.fuel-1,steps:=s.steps+1 }
def Ms.setv (s:Ms)(v a:Int):Ms:={ s with vals:=s.vals.set v.toNat a,evs:=s.evs++[⟨v, -1,a⟩] }
def Ms.arr (s:Ms)(v:Int):List Int:=(s.arrs[v.toNat]?).getD []
def Ms.seta (s:Ms)(v i a:Int):Ms:={ s with arrs:=s.arrs.set v.toNat ((s.arr v).set i.toNat a),evs:=s.evs++[⟨v,i,a⟩] }
def tr (b:Bool):Int:=if b then 1 else 0
def Al9 (tag a b:Int):Option Int:=
 if tag=7 then some (wrap64 (a+b))else if tag=8 then some (wrap64 (a-b))else if tag=9 then some (wrap64 (a*b))
 else if tag=10 then(if b=0 then none else some (wrap64 (a.tdiv b)))else if tag=11 then(if b=0 then none else some (a.tmod b))
 else if tag=12 then some (tr (decide (a=b)))else if tag=13 then some (tr (decide (a≠b)))else if tag=14 then some (tr (decide (a<b)))
 else if tag=15 then some (tr (decide (a<=b)))else if tag=16 then some (tr (decide (b<a)))else some (tr (decide (b<=a)))
theorem AeC{V:List Int}{inn f:Bool}{t:Tr}{ts:List Tr}{k:Int}{ks:List Int}:Q1 V inn f (t::ts) (k::ks)=(ofT V t==k && (!(inn && !f) || t.root.tag==20) && Q1 V inn false ts ks):=by rw[Q1]
theorem Af3{V:List Int}{inn f:Bool}{ks:List Int}:Q1 V inn f [] ks=true:=by rw[Q1]
theorem Aho{x:Nd}(h:0<=Qy x):x.tag=1\/(0<=x.n/\x.n<=(QX x).1):=by
 unfold Qy at h;by_cases a:x.tag=1
 ·exact .inl a
 ·rw[if_neg a]at h;split at h
  ·omega
  ·right;omega
def Ms.go (s:Ms):Prop:=s.out=none/\s.fuel≠0
def Am8 (tag:Int):Prop:=¬(tag=1\/tag=2\/tag=3\/tag=20\/tag=26)
def wide (tag:Int):Prop:=Am8 tag/\¬(tag=4\/tag=5\/tag=6\/tag=18\/tag=19\/tag=21\/tag=23\/tag=24\/tag=25)
structure Fr where
 at_:Nat
 t:Tr
 kid:Nat
 vals:List Int
structure Mm where
 s:Ms
 stack:List Fr
def VV (p:Nat)(t:Tr)(m:Mm):Mm:=if m.s.fuel=0 then⟨m.s.stop 4 0,m.stack⟩else⟨m.s.tick,⟨p,t,0,[]⟩::m.stack⟩
def Fr.told (f:Fr)(v:Int):Fr:={ f with vals:=f.vals++[v] }
def Fr.more (f:Fr):Fr:={ f with kid:=f.kid+1 }
def told (k v:Int):List Fr->List Fr
 |[]=>[]
 |f::r=>if k=2 then f::r else f.told v::r
def Ama (tag v:Int):Prop:=tag=18/\v=0\/tag=19/\v=1\/tag=24/\v=0
def asks (tag:Int):Prop:=tag=18\/tag=19\/tag=24
structure NextK (f:Fr)(i:Nat):Prop where
 lt:f.kid<f.t.kids.length
 how:(f.t.root.tag=23/\f.kid=1/\∃v vs,f.vals=v::vs/\(v=0\/v=1)/\(i:Int)=2-v)\/(i=f.kid/\¬(f.t.root.tag=23/\1<=f.kid)/\(f.kid=1->asks f.t.root.tag->∃v vs,f.vals=v::vs/\¬Ama f.t.root.tag v))
structure NextNo (f:Fr):Prop where
 how:(f.kid=1/\∃v vs,f.vals=v::vs/\Ama f.t.root.tag v)\/(¬(f.kid=1/\asks f.t.root.tag)/\((f.t.root.tag=23/\1<f.kid)\/(f.t.root.tag≠23/\f.t.kids.length<=f.kid)))
inductive Fin:Fr->Ms->List Fr->Mm->Prop
 |lit (f:Fr) (s:Ms) (g:Fr) (r:List Fr) (h:f.t.root.tag=1\/f.t.root.tag=2):Fin f s (g::r) ⟨s,g.told f.t.root.n::r⟩
 |var (f:Fr) (s:Ms) (g:Fr) (r:List Fr) (v:Int) (h:f.t.root.tag=3) (hn:0<=f.t.root.n) (hv:s.vals[f.t.root.n.toNat]? =some v):Fin f s (g::r) ⟨s,g.told v::r⟩
 |atNo (f:Fr) (s:Ms) (r:List Fr) (i:Int) (vs:List Int) (h:f.t.root.tag=4) (hn:0<=f.t.root.n) (hl:f.t.root.n.toNat<s.arrs.length) (hv:f.vals=i::vs) (hb:i<0\/((s.arr f.t.root.n).length:Int)<=i):Fin f s r ⟨s.stop 2 0,r⟩
 |at_ (f:Fr) (s:Ms) (g:Fr) (r:List Fr) (i v:Int) (vs:List Int) (h:f.t.root.tag=4) (hn:0<=f.t.root.n) (hl:f.t.root.n.toNat<s.arrs.length) (hv:f.vals=i::vs) (hb:¬(i<0\/((s.arr f.t.root.n).length:Int)<=i)) (hx:(s.arr f.t.root.n)[i.toNat]? =some v):Fin f s (g::r) ⟨s,g.told v::r⟩
 |neg (f:Fr) (s:Ms) (g:Fr) (r:List Fr) (v:Int) (vs:List Int) (h:f.t.root.tag=5) (hv:f.vals=v::vs):Fin f s (g::r) ⟨s,g.told (wrap64 (-v))::r⟩
 |not (f:Fr) (s:Ms) (g:Fr) (r:List Fr) (v:Int) (vs:List Int) (h:f.t.root.tag=6) (hv:f.vals=v::vs) (h01:v=0\/v=1):Fin f s (g::r) ⟨s,g.told (1-v)::r⟩
 |logic (f:Fr) (s:Ms) (g:Fr) (r:List Fr) (v:Int) (vs:List Int) (h:f.t.root.tag=18\/f.t.root.tag=19) (hv:f.vals=vs++[v]):Fin f s (g::r) ⟨s,g.told v::r⟩
 |set (f:Fr) (s:Ms) (r:List Fr) (v:Int) (vs:List Int) (h:f.t.root.tag=21) (hn:0<=f.t.root.n) (hl:f.t.root.n.toNat<s.vals.length) (hv:f.vals=v::vs):Fin f s r ⟨s.setv f.t.root.n v,r⟩
 |putNo (f:Fr) (s:Ms) (r:List Fr) (i v:Int) (vs:List Int) (h:f.t.root.tag=22) (hn:0<=f.t.root.n) (hl:f.t.root.n.toNat<s.arrs.length) (hv:f.vals=i::v::vs) (hb:i<0\/((s.arr f.t.root.n).length:Int)<=i):Fin f s r ⟨s.stop 2 0,r⟩
 |put (f:Fr) (s:Ms) (r:List Fr) (i v:Int) (vs:List Int) (h:f.t.root.tag=22) (hn:0<=f.t.root.n) (hl:f.t.root.n.toNat<s.arrs.length) (hv:f.vals=i::v::vs) (hb:¬(i<0\/((s.arr f.t.root.n).length:Int)<=i)):Fin f s r ⟨s.seta f.t.root.n i v,r⟩
 |while1 (f:Fr) (s:Ms) (r:List Fr) (vs:List Int) (h:f.t.root.tag=24) (hv:f.vals=1::vs):Fin f s r (VV f.at_ f.t ⟨s,r⟩)
 |while0 (f:Fr) (s:Ms) (r:List Fr) (v:Int) (vs:List Int) (h:f.t.root.tag=24) (hv:f.vals=v::vs) (h1:v≠1):Fin f s r ⟨s,r⟩
 |ret (f:Fr) (s:Ms) (r:List Fr) (v:Int) (vs:List Int) (h:f.t.root.tag=25) (hv:f.vals=v::vs):Fin f s r ⟨s.stop 0 v,r⟩
 |nothing (f:Fr) (s:Ms) (r:List Fr) (h:f.t.root.tag=20\/f.t.root.tag=23\/f.t.root.tag=26):Fin f s r ⟨s,r⟩
 |pairNo (f:Fr) (s:Ms) (r:List Fr) (a b:Int) (vs:List Int) (h:7<=f.t.root.tag/\f.t.root.tag<=17) (hv:f.vals=a::b::vs) (hp:Al9 f.t.root.tag a b=none):Fin f s r ⟨s.stop 1 0,r⟩
 |pair (f:Fr) (s:Ms) (g:Fr) (r:List Fr) (a b c:Int) (vs:List Int) (h:7<=f.t.root.tag/\f.t.root.tag<=17) (hv:f.vals=a::b::vs) (hp:Al9 f.t.root.tag a b=some c):Fin f s (g::r) ⟨s,g.told c::r⟩
inductive Step:Mm->Mm->Prop
 |done (s:Ms):Step ⟨s,[]⟩ ⟨s.stop 3 0,[]⟩
 |kid (s:Ms) (f:Fr) (r:List Fr) (i q:Nat) (k:Tr) (hi:NextK f i) (hq:(Zm (f.at_+1) f.t.kids)[i]? =some q) (hk:f.t.kids[i]? =some k):Step ⟨s,f::r⟩ (VV q k ⟨s,f.more::r⟩)
 |fin (s:Ms) (f:Fr) (r:List Fr) (m:Mm) (hn:NextNo f) (hf:Fin f s r m):Step ⟨s,f::r⟩ m
inductive Reach:Mm->Mm->Prop
 |refl (m:Mm):Reach m m
 |step (m m' m'':Mm) (ho:m.s.out=none) (h:Step m m') (r:Reach m' m''):Reach m m''
theorem Reach.trans{a b c:Mm}(h:Reach a b)(k:Reach b c):Reach a c:=by
 induction h with
 |refl m=>exact k
 |step m m' m'' ho h _ ih=>exact .step m m' _ ho h (ih k)
theorem Reach.one{a b:Mm}(ho:a.s.out=none)(h:Step a b):Reach a b:=.step _ _ _ ho h (.refl _)
theorem AlP{p:Nat}{ts:List Tr}{i:Nat}{k:Tr}(h:ts[i]? =some k):∃q,(Zm p ts)[i]? =some q:=
 ⟨_,Ld (by rw[X4];exact(Lf.1 h).1)⟩
structure LenS (V:List Int)(s:Ms):Prop where
 vlen:s.vals.length=V.length
 alen:s.arrs.length=V.length
 len:∀(i:Nat) (t:Int) (a:List Int),V[i]? =some t->s.arrs[i]? =some a->(a.length:Int)=Xa t
theorem LenS.arr_len{V:List Int}{s:Ms}(h:LenS V s){n t:Int}(hv:V[n.toNat]? =some t):((s.arr n).length:Int)=Xa t:=by
 have a:n.toNat<V.length:=(Lf.1 hv).1;have b:s.arrs[n.toNat]? =some (s.arrs[n.toNat]'(by rw[h.alen];exact a)):=Ld _;unfold Ms.arr;rw[b];exact h.len _ _ _ hv b
theorem LenS.stop{V:List Int}{s:Ms}(h:LenS V s)(k v:Int):LenS V (s.stop k v):=⟨h.vlen,h.alen,h.len⟩
theorem LenS.tick{V:List Int}{s:Ms}(h:LenS V s):LenS V s.tick:=⟨h.vlen,h.alen,h.len⟩
theorem LenS.setv{V:List Int}{s:Ms}(h:LenS V s)(n v:Int):LenS V (s.setv n v):=⟨by simp[Ms.setv,h.vlen],h.alen,h.len⟩
theorem LenS.seta{V:List Int}{s:Ms}(h:LenS V s)(n i v:Int):LenS V (s.seta n i v):=by
 refine⟨h.vlen,by simp[Ms.seta,h.alen],λj t a c b=>?_⟩;have d:j<s.arrs.length:=by rw[h.alen];exact(Lf.1 c).1
 simp only[Ms.seta]at b;by_cases e:n.toNat=j
 ·subst e;rw[List.getElem?_set_self d]at b;injection b with b;subst b;rw[List.length_set];exact h.arr_len c
 ·rw[List.getElem?_set_ne e]at b;exact h.len j t a c b
structure FOk (l:List Nd)(f:Fr):Prop where
 hat:At l f.at_ f.t
 kid:f.kid<=f.t.kids.length
 vals:f.vals.length<=f.kid
structure SOk (l:List Nd)(st:List Fr):Prop where
 top:∀f r,st=f::r->FOk l f
 rest:∀f r,st=f::r->∀g∈r,FOk l g/\g.vals.length+1<=g.kid
theorem SOk.nil (l:List Nd):SOk l []:=⟨λ_ _ h=>by simp at h,λ_ _ h=>by simp at h⟩
theorem SOk.tail{l:List Nd}{f:Fr}{r:List Fr}(h:SOk l (f::r)):SOk l r:=
 ⟨λg r' e=>(h.rest f r rfl g (by rw[e];simp)).1,λg r' e k hk=>h.rest f r rfl k (by rw[e];simp[hk])⟩
theorem SOk.told{l:List Nd}{f g:Fr}{r:List Fr}(h:SOk l (f::g::r))(v:Int):SOk l (g.told v::r):=by
 have c:=h.rest f (g::r) rfl g (by simp);refine⟨λa b e=>?_,λa b e k d=>?_⟩
 ·injection e with e1 e2;subst e1;exact⟨c.1.hat,c.1.kid,by simp only[Fr.told,La,Nb];exact c.2⟩
 ·injection e with e1 e2;subst e2;exact h.rest f (g::r) rfl k (by simp[d])
theorem SOk.enter{l:List Nd}{s:Ms}{r:List Fr}(h:SOk l r)(h1:∀g∈r,g.vals.length+1<=g.kid/\FOk l g){q:Nat}{t:Tr}(hat:At l q t):SOk l (VV q t ⟨s,r⟩).stack:=by
 unfold VV;split
 ·exact h
 ·refine⟨λa b e=>?_,λa b e k c=>?_⟩
  ·injection e with e1 e2;subst e1;exact⟨hat,Nat.zero_le _,Nat.le_refl _⟩
  ·injection e with e1 e2;subst e2;exact⟨(h1 k c).2,(h1 k c).1⟩
theorem LenS.enter{V:List Int}{s:Ms}{r:List Fr}(h:LenS V s){q:Nat}{t:Tr}:LenS V (VV q t ⟨s,r⟩).s:=by
 unfold VV;split
 ·exact h.stop _ _
 ·exact h.tick
theorem Fin.ok{l:List Nd}{V:List Int}{f:Fr}{s:Ms}{r:List Fr}{m:Mm}(h:Fin f s r m)(hs:SOk l (f::r))(hl:LenS V s):SOk l m.stack/\LenS V m.s:=by
 have a:=hs.tail;cases h with
 |lit=>exact⟨hs.told _,hl⟩
 |var=>exact⟨hs.told _,hl⟩
 |atNo=>exact⟨a,hl.stop _ _⟩
 |at_=>exact⟨hs.told _,hl⟩
 |neg=>exact⟨hs.told _,hl⟩
 |not=>exact⟨hs.told _,hl⟩
 |logic=>exact⟨hs.told _,hl⟩
 |set=>exact⟨a,hl.setv _ _⟩
 |putNo=>exact⟨a,hl.stop _ _⟩
 |put=>exact⟨a,hl.seta _ _ _⟩
 |while1=>exact⟨a.enter (λg b=>⟨(hs.rest f _ rfl g b).2,(hs.rest f _ rfl g b).1⟩) (hs.top f _ rfl).hat,hl.enter⟩
 |while0=>exact⟨a,hl⟩
 |ret=>exact⟨a,hl.stop _ _⟩
 |nothing=>exact⟨a,hl⟩
 |pairNo=>exact⟨a,hl.stop _ _⟩
 |pair=>exact⟨hs.told _,hl⟩
theorem Step.ok{l:List Nd}{V:List Int}{m m':Mm}(h:Step m m')(hs:SOk l m.stack)(hl:LenS V m.s):SOk l m'.stack/\LenS V m'.s:=by
 cases h with
 |done s=>exact⟨SOk.nil l,hl.stop _ _⟩
 |kid s f r i q k hi hq hk=>
  have c:=hs.top f r rfl;have j:=(c.hat.kids.spot i q k hq hk).1;have o:=hi.lt;have n:SOk l (f.more::r):=⟨λa b e=>by injection e with e1 e2;subst e1;exact⟨c.hat,by simp only[Fr.more];omega,by have:=c.vals;simp only[Fr.more];omega⟩,λa b e g d=>by injection e with e1 e2;subst e2;exact hs.rest f r rfl g d⟩;refine⟨n.enter (λg d=>?_) j,hl.enter⟩;rcases L6.1 d with rfl|d
  ·exact⟨by have:=c.vals;simp only[Fr.more];omega,n.top _ _ rfl⟩
  ·exact⟨(hs.rest f r rfl g d).2,(hs.rest f r rfl g d).1⟩
 |fin s f r m' hn c=>exact c.ok hs hl
end Go.Proofs.YtgnmkiafeplbpaaGreatDoor
namespace Go.Proofs.YtgnmkiafeplbpaaGreatDoor
def Q3 (a b:Int):Int:=if a<b then-1 else if b<a then 1 else 0
def Q6:List Int->List Int->Int
 |[],[]=>0
 |[],_::_=> -1
 |_::_,[]=>1
 |a::xs,b::ys=>if Q3 a b≠0 then Q3 a b else Q6 xs ys
structure Dl where
 path:List Int
 op:Int
 n:Int
def orI (a b:Int):Int:=if a≠0 then a else b
def Zw (d e:Dl):Int:=orI (Q6 d.path e.path) (orI (Q3 d.op e.op) (Q3 d.n e.n))
theorem Y5 (a:Int):Q3 a a=0:=by unfold Q3;rw[if_neg (by omega),if_neg (by omega)]
theorem cmpI_eq{a b:Int}:Q3 a b=0<->a=b:=by
 unfold Q3;constructor
 ·intro h;split at h
  ·cases h
  ·split at h
   ·cases h
   ·omega
 ·rintro rfl;rw[if_neg (by omega),if_neg (by omega)]
theorem cmpI_lt{a b:Int}:Q3 a b<0<->a<b:=by
 unfold Q3;split
 ·simp_all
 ·split<;>simp<;>omega
theorem Aat (a b:Int):Q3 b a= -Q3 a b:=by
 unfold Q3
 repeat' split
 all_goals omega
theorem Ac7 (a b:Int):Q3 a b= -1\/Q3 a b=0\/Q3 a b=1:=by
 unfold Q3
 repeat' split
 all_goals simp
theorem Ab4:∀a:List Int,Q6 a a=0
 |[]=>rfl
 |x::xs=>by rw[Q6,Y5,if_neg (by simp),Ab4 xs]
theorem cmpL_eq:∀{a b:List Int},Q6 a b=0<->a=b
 |[],[]=>by simp[Q6]
 |[],_::_=>by simp[Q6]
 |_::_,[]=>by simp[Q6]
 |a::xs,b::ys=>by
  rw[Q6]
  by_cases h:Q3 a b=0
  ·rw[if_neg (by simpa using h),cmpL_eq,cmpI_eq.1 h];simp
  ·rw[if_pos h]
   constructor
   ·intro e;exact absurd e h
   ·intro e;injection e with e1 e2;exact absurd (cmpI_eq.2 e1) h
theorem AdX:∀(a b:List Int),Q6 b a= -Q6 a b
 |[],[]=>by simp[Q6]
 |[],_::_=>by simp[Q6]
 |_::_,[]=>by simp[Q6]
 |a::xs,b::ys=>by
  rw[Q6,Q6,Aat a b]
  by_cases h:Q3 a b=0
  ·rw[if_neg (by omega),if_neg (by omega),AdX xs ys]
  ·rw[if_pos (by omega),if_pos h]
theorem Agt:∀(a b:List Int),Q6 a b= -1\/Q6 a b=0\/Q6 a b=1
 |[],[]=>by simp[Q6]
 |[],_::_=>by simp[Q6]
 |_::_,[]=>by simp[Q6]
 |a::xs,b::ys=>by
  rw[Q6]
  split
  ·exact Ac7 a b
  ·exact Agt xs ys
theorem Aaw:∀{a b c:List Int},Q6 a b<0->Q6 b c<0->Q6 a c<0
 |[],[],_,h,_=>by simp[Q6]at h
 |[],b::ys,[],_,h=>by simp[Q6]at h
 |[],b::ys,c::zs,_,_=>by simp[Q6]
 |a::xs,[],_,h,_=>by simp[Q6]at h
 |a::xs,b::ys,[],_,h=>by simp[Q6]at h
 |a::xs,b::ys,c::zs,h1,h2=>by
  rw[Q6]at h1 h2|-
  by_cases e1:Q3 a b=0
  ·rw[if_neg (by simpa using e1)]at h1
   have:=cmpI_eq.1 e1
   subst this
   by_cases e2:Q3 a c=0
   ·rw[if_neg (by simpa using e2)]at h2|-
    exact Aaw h1 h2
   ·rw[if_pos e2]at h2|-
    exact h2
  ·rw[if_pos e1]at h1
   by_cases e2:Q3 b c=0
   ·have:=cmpI_eq.1 e2
    subst this
    rw[if_pos e1];exact h1
   ·rw[if_pos e2]at h2
    have h3:Q3 a c<0:=cmpI_lt.2 (Int.lt_trans (cmpI_lt.1 h1) (cmpI_lt.1 h2))
    rw[if_pos (by omega)];exact h3
theorem AjO{a b:Int}:orI a b=0<->a=0/\b=0:=by
 unfold orI;split
 ·rename_i h;exact⟨λe=>absurd e h,λe=>e.1⟩
 ·rename_i h;exact⟨λe=>⟨by omega,e⟩,λe=>e.2⟩
theorem cmpD_eq{d e:Dl}:Zw d e=0<->d=e:=by
 unfold Zw;rw[AjO,AjO,cmpL_eq,cmpI_eq,cmpI_eq];cases d;cases e;simp
theorem VP (d:Dl):Zw d d=0:=cmpD_eq.2 rfl
theorem AgR (a b:Int):orI (-a) (-b)= -orI a b:=by
 unfold orI;by_cases h:a=0
 ·rw[if_neg (by omega),if_neg (by omega)]
 ·rw[if_pos (by omega),if_pos h]
theorem AiZ (d e:Dl):Zw e d= -Zw d e:=by
 unfold Zw;rw[AdX,Aat d.op,Aat d.n,AgR,AgR]
theorem AjN{a b:Int}(h1:a= -1\/a=0\/a=1)(h2:b= -1\/b=0\/b=1):orI a b= -1\/orI a b=0\/orI a b=1:=by
 unfold orI;split<;>assumption
theorem AkU (d e:Dl):Zw d e= -1\/Zw d e=0\/Zw d e=1:=AjN (Agt _ _) (AjN (Ac7 _ _) (Ac7 _ _))
theorem Afq{d e f:Dl}(h1:Zw d e<0)(h2:Zw e f<0):Zw d f<0:=by
 unfold Zw orI at*;by_cases c:Q6 d.path e.path=0
 ·rw[if_neg (by simpa using c)]at h1;rw[cmpL_eq.1 c];by_cases a:Q6 e.path f.path=0
  ·rw[if_neg (by simpa using a)]at h2|-;by_cases g:Q3 d.op e.op=0
   ·rw[if_neg (by simpa using g)]at h1;rw[cmpI_eq.1 g];by_cases b:Q3 e.op f.op=0
    ·rw[if_neg (by simpa using b)]at h2|-;exact cmpI_lt.2 (Int.lt_trans (cmpI_lt.1 h1) (cmpI_lt.1 h2))
    ·rw[if_pos b]at h2|-;exact h2
   ·rw[if_pos g]at h1;by_cases b:Q3 e.op f.op=0
    ·rw[<-cmpI_eq.1 b,if_pos g];exact h1
    ·rw[if_pos b]at h2;have h:Q3 d.op f.op<0:=cmpI_lt.2 (Int.lt_trans (cmpI_lt.1 h1) (cmpI_lt.1 h2));rw[if_pos (by omega)];exact h
  ·rw[if_pos a]at h2|-;exact h2
 ·rw[if_pos c]at h1;by_cases a:Q6 e.path f.path=0
  ·rw[<-cmpL_eq.1 a,if_pos c];exact h1
  ·rw[if_pos a]at h2;have h:=Aaw h1 h2;rw[if_pos (by omega)];exact h
def K6:List Dl->Prop
 |[]=>True
 |[_]=>True
 |a::b::l=>Zw a b<0/\K6 (b::l)
theorem Agf{a:Dl}{l:List Dl}(h:K6 (a::l)):K6 l:=by
 cases l with
 |nil=>trivial
 |cons b l=>exact h.2
theorem Aa9:∀{l:List Dl} {a b:Dl},K6 (a::l)->b∈l->Zw a b<0
 |[],_,_,_,h=>by simp at h
 |c::l,a,b,hr,h=>by
  rcases L6.1 h with rfl|h
  ·exact hr.1
  ·exact Afq hr.1 (Aa9 hr.2 h)
theorem Uk:∀{l:List Dl} {i j:Nat} {a b:Dl},K6 l->l[i]? =some a->l[j]? =some b->i<j->Zw a b<0
 |[],_,_,_,_,_,h,_,_=>by simp at h
 |c::l,0,0,_,_,_,_,_,h=>by omega
 |c::l,0,j+1,a,b,hr,h1,h2,_=>by
  simp at h1 h2
  subst h1
  exact Aa9 hr (Li h2)
 |c::l,i+1,0,_,_,_,_,_,h=>by omega
 |c::l,i+1,j+1,a,b,hr,h1,h2,h=>Uk (Agf hr) (by simpa using h1) (by simpa using h2) (by omega)
end Go.Proofs.YtgnmkiafeplbpaaGreatDoor
namespace Go.Proofs.YtgnmkiafeplbpaaGreatDoor
open Go.RowKit
def J3:List Int->Prop
 |[]=>True
 |[_]=>True
 |a::b::l=>a<b/\J3 (b::l)
theorem Kt{a:Int}{l:List Int}(h:J3 (a::l)):J3 l:=by
 cases l with
 |nil=>trivial
 |cons b l=>exact h.2
theorem Jy:∀{l:List Int} {a b:Int},J3 (a::l)->b∈l->a<b
 |[],_,_,_,h=>by simp at h
 |c::l,a,b,hr,h=>by
  rcases L6.1 h with rfl|h
  ·exact hr.1
  ·exact Int.lt_trans hr.1 (Jy hr.2 h)
theorem Aba{a:Int}{l:List Int}(h:J3 l)(hl:∀b∈l,a<b):J3 (a::l):=by
 cases l with
 |nil=>trivial
 |cons b l=>exact⟨hl b (by simp),h⟩
theorem Ef:∀{l m:List Int},J3 l->J3 m->(∀x,x∈l<->x∈m)->l=m
 |[],[],_,_,_=>rfl
 |[],b::m,_,_,h=>absurd ((h b).2 (by simp)) (by simp)
 |a::l,[],_,_,h=>absurd ((h a).1 (by simp)) (by simp)
 |a::l,b::m,h1,h2,h=>by
  have hab:a=b:=by
   rcases L6.1 ((h a).1 (by simp))with e|i
   ·exact e
   ·rcases L6.1 ((h b).2 (by simp))with e|j
    ·exact e.symm
    ·have:=Jy h1 j;have:=Jy h2 i;omega
  subst hab
  rw[Ef (Kt h1) (Kt h2) λx=>?_]
  constructor
  ·intro c
   have d:=Jy h1 c
   rcases L6.1 ((h x).1 (by simp[c]))with e|g
   ·omega
   ·exact g
  ·intro c
   have d:=Jy h2 c
   rcases L6.1 ((h x).2 (by simp[c]))with e|g
   ·omega
   ·exact g
def AbK (a:Int):List Int->List Int
 |[]=>[a]
 |b::l=>if a<b then a::b::l else if a=b then b::l else b::AbK a l
theorem AaO (a x:Int):∀l:List Int,x∈AbK a l<->x=a\/x∈l
 |[]=>by simp[AbK]
 |b::l=>by
  rw[AbK]
  split
  ·simp
  ·split
   ·rename_i e;subst e;simp
   ·rw[L6,AaO a x l,L6]
    constructor
    ·rintro(h|h|h)<;>simp[h]
    ·rintro(h|h|h)<;>simp[h]
theorem Acp (a:Int):∀{l:List Int},J3 l->J3 (AbK a l)
 |[],_=>trivial
 |b::l,h=>by
  rw[AbK]
  split
  ·rename_i hab;exact⟨hab,h⟩
  ·split
   ·exact h
   ·rename_i h1 h2
    refine Aba (Acp a (Kt h)) λx hx=>?_
    rcases (AaO a x l).1 hx with rfl|hx
    ·omega
    ·exact Jy h hx
def Xd:List Int->List Int
 |[]=>[]
 |a::l=>AbK a (Xd l)
theorem Um (x:Int):∀l:List Int,x∈Xd l<->x∈l
 |[]=>by simp[Xd]
 |a::l=>by rw[Xd,AaO,Um x l,L6]
theorem Xe:∀l:List Int,J3 (Xd l)
 |[]=>trivial
 |a::l=>Acp a (Xe l)
theorem JX (f:Int->Bool):∀{l:List Int},J3 l->J3 (l.filter f)
 |[],_=>trivial
 |a::l,h=>by
  rw[List.filter_cons]
  split
  ·exact Aba (JX f (Kt h)) λb hb=>Jy h ((Nl.1 hb).1)
  ·exact JX f (Kt h)
def isC (x y:Nd)(op n:Int):Bool:=
 if op=1 then decide (7<=x.tag/\x.tag<=11/\7<=n/\n<=11/\n≠x.tag)else if op=2 then decide (12<=x.tag/\x.tag<=17/\12<=n/\n<=17/\n≠x.tag)
 else if op=3 then decide (18<=x.tag/\x.tag<=19/\18<=n/\n<=19/\n≠x.tag)
 else if op=4 then decide ((x.tag=1/\(n=0\/n=1\/n= -1\/n=wrap64 (x.n+1)\/n=wrap64 (x.n-1))/\n≠x.n)\/(x.tag=2/\n=wrap64 (1-x.n)))
 else if op=5 then decide ((x.tag=21\/x.tag=22\/x.tag=23\/x.tag=24\/x.tag=25)/\n=0)
 else if op=6 then decide ((x.tag=23\/x.tag=24)/\n=0)
 else if op=7 then decide (x.tag=25/\(n=0\/n=1)/\¬(y.tag=1/\y.n=n))else false
def Ady (x:Nd):List Int:=Xd ([-1,0,1,wrap64 (x.n-1),wrap64 (x.n+1)]++(List.range 13).map λi:Nat=>(i:Int)+7)
def Z7 (x y:Nd):List (Int×Int):=((List.range 7).map λi:Nat=>(i:Int)+1).flatMap λop=>((Ady x).filter (isC x y op)).map λn=>(op,n)
theorem Acq{x y:Nd}{op n:Int}(h:isC x y op n=true)(h2:x.tag=2->x.n=0\/x.n=1):n∈Ady x:=by
 unfold Ady;rw[Um]
 have a:∀k:Int,7<=k->k<=19->k∈(List.range 13).map λi:Nat=>(i:Int)+7:=λk b h2=>by
  rw[LL];exact⟨(k-7).toNat,Ny.2 (by omega),by omega⟩
 unfold isC at h;rw[LG]
 repeat' split at h
 all_goals(first| (cases h;done)|skip)
 all_goals(simp only[decide_eq_true_eq]at h)
 ·exact .inr (a n (by omega) (by omega))
 ·exact .inr (a n (by omega) (by omega))
 ·exact .inr (a n (by omega) (by omega))
 ·refine .inl ?_;rcases h with⟨_,h,_⟩|⟨b,h⟩
  ·simp;omega
  ·have:n=0\/n=1:=by
     subst h;unfold wrap64;rcases h2 b with e|e<;>rw[e]<;>omega
   simp;omega
 ·exact .inl (by simp;omega)
 ·exact .inl (by simp;omega)
 ·exact .inl (by simp;omega)
theorem Ac6{x y:Nd}{op n:Int}(h2:x.tag=2->x.n=0\/x.n=1):(op,n)∈Z7 x y<->isC x y op n=true:=by
 unfold Z7;rw[N7];constructor
 ·rintro⟨o,_,h⟩;rw[LL]at h;obtain⟨m,a,e⟩:=h;injection e with e1 e2;subst e1;subst e2;exact(Nl.1 a).2
 ·intro h
  have b:1<=op/\op<=7:=by
   unfold isC at h
   repeat' split at h
   all_goals(first| (cases h;done)|omega)
  refine⟨op,?_,?_⟩
  ·rw[LL];exact⟨(op-1).toNat,Ny.2 (by omega),by omega⟩
  ·rw[LL];exact⟨n,Nl.2 ⟨Acq h h2,h⟩,rfl⟩
end Go.Proofs.YtgnmkiafeplbpaaGreatDoor
