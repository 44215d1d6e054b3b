/- Lemmas for RunnerKillsP. -/
import Derived.Test.YtkoikjnlpifbjaaGreatZk1
import Derived.Lib.Hide
import Derived.IntWalk
set_option linter.unusedVariables false
set_option linter.unusedSimpArgs false
set_option maxRecDepth 100000
set_option maxHeartbeats 16000000
namespace Go.Proofs.YtkoikjnlpifbjaaGreat
structure Nd where
 tag:Int
 n:Int
def Q9 (x:Nd):Int×Int:=
 if x.tag=2 then(1,0)else if x.tag=3 then(11,0)else if x.tag=4\/x.tag=21 then(11,1)else if x.tag=22 then(11,2)
 else if x.tag=5\/x.tag=6\/x.tag=25 then(0,1)else if x.tag=24 then(0,2)else if x.tag=20 then(200,x.n)else if x.tag=23 then(0,3)
 else if x.tag=26 then(0,0)else if 7<=x.tag/\x.tag<=19 then(0,2)else(-1, -1)
def Qv (x:Nd):Int:=if x.tag=1 then 0 else if x.n<0\/(Q9 x).1<x.n then-1 else(Q9 x).2
theorem Ae2 (x:Nd):(-1<=(Q9 x).2/\(Q9 x).2<=3)\/((Q9 x).1=200/\(Q9 x).2=x.n):=by
 unfold Q9
 repeat' split
 all_goals(dsimp only;omega)
theorem JT (x:Nd): -1<=Qv x/\Qv x<=200:=by
 unfold Qv;have:=Ae2 x;split
 ·omega
 ·split
  ·omega
  ·omega
def JM:List Nd->Nat->Option Nat
 |_,0=>some 0
 |[],_+1=>none
 |x::xs,w+1=>if Qv x<0 then none else(JM xs (w+(Qv x).toNat)).map (· +1)
def endZ (l:List Nd)(at_:Int):Int:=if at_<0 then-1 else match JM (l.drop at_.toNat) 1 with|none=> -1|some c=>at_+c
def Zx (l:List Nd):Nat->Int->List Int
 |0,_=>[]
 |k+1,p=>p::Zx l k (endZ l p)
def kidsZ (l:List Nd)(at_:Int):List Int:=if endZ l at_<0 then []else Zx l (Qv ((l[at_.toNat]?).getD ⟨0,0⟩)).toNat (at_+1)
inductive Tr where
 |node (x:Nd) (kids:List Tr)
mutual
def Tr.flat:Tr->List Nd
 | .node x ks=>x::QM ks
def QM:List Tr->List Nd
 |[]=>[]
 |t::ts=>t.flat++QM ts
end
inductive Tr.fits:Tr->Prop
 |mk (x:Nd) (ks:List Tr) (h:Qv x=(ks.length:Int)) (hk:∀k∈ks,k.fits):Tr.fits (.node x ks)
theorem UB:∀(a b:List Tr),QM (a++b)=QM a++QM b
 |[],b=>by simp[QM]
 |t::a,b=>by simp[QM,UB a b]
theorem EH:∀(n:Nat) (l:List Nd) (w c:Nat),l.length<=n->JM l w=some c->∃ts:List Tr,ts.length=w/\(∀t∈ts,t.fits)/\QM ts=l.take c
 |_,l,0,c,_,h=>by
  simp[JM]at h;subst h
  exact⟨[],rfl,λ_ h=>by simp at h,by simp[QM]⟩
 |_,[],w+1,c,_,h=>by simp[JM]at h
 |0,x::xs,w+1,c,hn,h=>by simp at hn
 |n+1,x::xs,w+1,c,hn,h=>by
  rw[JM]at h
  split at h
  ·cases h
  ·rename_i ha
   obtain⟨c',h1,rfl⟩:=Option.map_eq_some_iff.1 h
   obtain⟨ts,hl,hf,he⟩:=EH n xs _ _ (by simpa using hn) h1
   refine⟨.node x (ts.take (Qv x).toNat)::ts.drop (Qv x).toNat,by simp[hl],λt ht=>?_,?_⟩
   ·rcases Ls.1 ht with rfl|ht
    ·refine .mk x _ (by rw[L1,hl];omega) (λk hk=>hf k (List.mem_of_mem_take hk))
    ·exact hf t (List.mem_of_mem_drop ht)
   ·rw[QM,Tr.flat,Ll, <-UB,LF,he];rfl
mutual
theorem Abe (x:Nd)(ks:List Tr)(h:(Tr.node x ks).fits)(w:Nat)(rest:List Nd):JM ((Tr.node x ks).flat++rest) (w+1)=(JM rest w).map (· +(Tr.node x ks).flat.length):=by
 cases h with
 |mk _ _ ha hk=>
  rw[Tr.flat,Ll,JM,if_neg (by omega),ha,Ln,Nat.add_comm w ks.length,EG ks hk w rest];cases JM rest w with
  |none=>rfl
  |some c=>simp;omega
theorem EG:∀(ks:List Tr),(∀k∈ks,k.fits)->∀(w:Nat) (rest:List Nd),JM (QM ks++rest) (ks.length+w)=(JM rest w).map (· +(QM ks).length)
 |[],_,w,rest=>by
  simp[QM]
 | .node x ks'::ks,h,w,rest=>by
  rw[QM,Ly,Lc,show ks.length+1+w=(ks.length+w)+1 by omega,Abe x ks' (h _ (by simp)) _ _,EG ks (λk hk=>h k (by simp[hk])) w rest]
  cases JM rest w with
  |none=>rfl
  |some c=>simp;omega
end
def Tr.root:Tr->Nd
 | .node x _=>x
def Tr.kids:Tr->List Tr
 | .node _ ks=>ks
def Tr.size (t:Tr):Nat:=t.flat.length
theorem Tr.flat_eq:∀t:Tr,t.flat=t.root::QM t.kids
 | .node _ _=>by rw[Tr.flat];rfl
theorem Tr.size_eq (t:Tr):t.size=(QM t.kids).length+1:=by rw[Tr.size,t.flat_eq];simp
theorem Tr.fits.arity{t:Tr}(h:t.fits):Qv t.root=(t.kids.length:Int):=by cases h;assumption
theorem Tr.fits.kid{t:Tr}(h:t.fits):∀k∈t.kids,k.fits:=by cases h;assumption
theorem AjM (t:Tr)(h:t.fits)(w:Nat)(rest:List Nd):JM (t.flat++rest) (w+1)=(JM rest w).map (· +t.flat.length):=by
 cases t;exact Abe _ _ h w rest
structure At (l:List Nd)(p:Nat)(t:Tr):Prop where
 fits:t.fits
 here:∃rest,l.drop p=t.flat++rest
structure Ats (l:List Nd)(p:Nat)(ts:List Tr):Prop where
 fits:∀t∈ts,t.fits
 here:∃rest,l.drop p=QM ts++rest
section
variable {l:List Nd} {p:Nat} {t:Tr} {ts:List Tr}
theorem At.le (h:At l p t):p+t.size<=l.length:=by
 obtain⟨c,e⟩:=h.here;have:=congrArg List.length e;rw[LO,Le]at this;have d:t.size=t.flat.length:=rfl;have:=t.size_eq;omega
theorem At.lt (h:At l p t):p<l.length:=by have:=h.le;have:=t.size_eq;omega
theorem At.root (h:At l p t):l[p]? =some t.root:=by
 obtain⟨c,e⟩:=h.here;have:=congrArg List.head? e;rw[List.head?_drop,t.flat_eq]at this;simpa using this
theorem At.kids (h:At l p t):Ats l (p+1) t.kids:=by
 obtain⟨c,e⟩:=h.here;refine⟨h.fits.kid,c,?_⟩;rw[<-Nj,e,t.flat_eq];simp
theorem Ats.head{ts:List Tr}(h:Ats l p (t::ts)):At l p t:=by
 obtain⟨c,e⟩:=h.here;exact⟨h.fits t (by simp),QM ts++c,by rw[e,QM,Ly]⟩
theorem Ats.tail{ts:List Tr}(h:Ats l p (t::ts)):Ats l (p+t.size) ts:=by
 obtain⟨c,e⟩:=h.here;refine⟨λk d=>h.fits k (by simp[d]),c,?_⟩;rw[<-Nj,e,QM,Ly];simp[Tr.size]
theorem At.endZ (h:At l p t):endZ l (p:Int)=((p+t.size:Nat):Int):=by
 obtain⟨c,e⟩:=h.here;unfold Go.Proofs.YtkoikjnlpifbjaaGreat.endZ;rw[if_neg (by omega),Ln,e,show(1:Nat)=0+1 from rfl,AjM t h.fits 0 c];simp[JM,Tr.size]
theorem Ue{a:Int}(h:0<=endZ l a):∃t,At l a.toNat t/\0<=a:=by
 unfold Go.Proofs.YtkoikjnlpifbjaaGreat.endZ at h;by_cases d:a<0
 ·rw[if_pos d]at h;omega
 ·rw[if_neg d]at h;cases hw:JM (l.drop a.toNat) 1 with
  |none=>rw[hw]at h;simp at h
  |some c=>
   obtain⟨j,i,g,e⟩:=EH _ _ 1 c (Nat.le_refl _) hw
   match j,i with
   |[t],_=>
    refine⟨t,⟨g t (by simp),(l.drop a.toNat).drop c,?_⟩,by omega⟩;have:t.flat=(l.drop a.toNat).take c:=by simpa[QM]using e
    rw[this,LF]
theorem Ah6{a:Int}(h:a<0):endZ l a= -1:=by unfold Go.Proofs.YtkoikjnlpifbjaaGreat.endZ;rw[if_pos h]
def Q1:Nat->List Tr->List Nat
 |_,[]=>[]
 |p,t::ts=>p::Q1 (p+t.size) ts
theorem Ju:∀(ts:List Tr) (p:Nat),(Q1 p ts).length=ts.length
 |[],_=>rfl
 |t::ts,p=>by simp[Q1,Ju ts]
theorem UL:∀{ts:List Tr} {p:Nat},Ats l p ts->Zx l ts.length (p:Int)=(Q1 p ts).map λn:Nat=>(n:Int)
 |[],_,_=>rfl
 |t::ts,p,h=>by
  rw[Lc,Zx,h.head.endZ,UL h.tail,Q1];rfl
theorem At.kidsZ (h:At l p t):kidsZ l (p:Int)=(Q1 (p+1) t.kids).map λn:Nat=>(n:Int):=by
 unfold Go.Proofs.YtkoikjnlpifbjaaGreat.kidsZ;rw[h.endZ,if_neg (by omega),Ln,h.root,LL,h.fits.arity,Ln];have:=UL h.kids;rw[<-this];rfl
theorem Ats.spot:∀{ts:List Tr} {p:Nat},Ats l p ts->∀(i q:Nat) (k:Tr),(Q1 p ts)[i]? =some q->ts[i]? =some k->At l q k/\p<=q
 |[],_,_,i,q,k,h,_=>by simp[Q1]at h
 |t::ts,p,h,0,q,k,h1,h2=>by
  simp[Q1]at h1 h2;subst h1 h2;exact⟨h.head,Nat.le_refl _⟩
 |t::ts,p,h,i+1,q,k,h1,h2=>by
  simp[Q1]at h1 h2
  obtain⟨a,b⟩:=h.tail.spot i q k h1 h2
  exact⟨a,by omega⟩
end
def QC (t:Int):Int:=if 2<=t/\t<=9 then t-1 else 0
def Ky (V:List Int)(n:Int):Bool:=match V[n.toNat]? with|some t=>t==0 || t==1|none=>false
def Yu (V:List Int)(n:Int):Bool:=match V[n.toNat]? with|some t=>QC t != 0|none=>false
def isZ (V:List Int)(x:Nd):Int:=
 if x.tag=1 then 0 else if x.tag=2 then 1 else if x.tag=3 then(if Ky V x.n then(V[x.n.toNat]?).getD 0 else-1)
 else if x.tag=4 then(if Yu V x.n then 0 else-1)else if x.tag=5 then 0 else if x.tag=6 then 1
 else if 7<=x.tag/\x.tag<=11 then 0 else if 12<=x.tag/\x.tag<=19 then 1
 else if x.tag=21 then(if Ky V x.n then 2 else-1)else if x.tag=22 then(if Yu V x.n then 2 else-1)else 2
def QY (V:List Int)(x:Nd)(n:Nat):List Int:=
 if x.tag=4\/x.tag=5\/x.tag=25 then [0]else if x.tag=6 then [1]else if 7<=x.tag/\x.tag<=17\/x.tag=22 then [0,0]else if x.tag=18\/x.tag=19 then [1,1]
 else if x.tag=21 then [(V[x.n.toNat]?).getD 0]else if x.tag=23 then [1,2,2]else if x.tag=24 then [1,2]
 else if x.tag=1\/x.tag=2\/x.tag=3\/x.tag=26 then []else List.replicate n 2
def ZH (x:Nd):Bool:=x.tag==23 || x.tag==24
mutual
def ofT (V:List Int):Tr->Int
 | .node x ks=>if isZ V x= -1\/(QY V x ks.length).length≠ks.length then-1 else if Zb V (ZH x) true ks (QY V x ks.length)then isZ V x else-1
def Zb (V:List Int)(inn:Bool)(first:Bool):List Tr->List Int->Bool
 |[],_=>true
 |_::_,[]=>true
 |t::ts,k::ks=>ofT V t==k && (!(inn && !first) || t.root.tag==20) && Zb V inn false ts ks
end
theorem Yl{V:List Int}{n:Int}(h:Ky V n=true):∃t,V[n.toNat]? =some t/\(t=0\/t=1):=by
 unfold Ky at h;split at h
 ·rename_i t c;exact⟨t,c,by simpa using h⟩
 ·cases h
theorem Em{V:List Int}{n:Int}(h:Yu V n=true):∃t,V[n.toNat]? =some t/\QC t≠0:=by
 unfold Yu at h;split at h
 ·rename_i t c;exact⟨t,c,by simpa using h⟩
 ·cases h
theorem Xa{V:List Int}{x:Nd}{ks:List Tr}(h:ofT V (.node x ks)≠ -1):ofT V (.node x ks)=isZ V x/\isZ V x≠ -1/\(QY V x ks.length).length=ks.length/\Zb V (ZH x) true ks (QY V x ks.length)=true:=by
 rw[ofT]at h|-;split at h
 ·exact absurd rfl h
 ·rename_i c;split at h
  ·rename_i d;rw[if_neg c,if_pos d];exact⟨rfl,λe=>c (.inl e),Classical.byContradiction λe=>c (.inr e),d⟩
  ·exact absurd rfl h
theorem XX{V:List Int}{inn:Bool}:∀{ts:List Tr} {ks:List Int} {f:Bool},Zb V inn f ts ks=true->∀(i:Nat) (t:Tr) (k:Int),ts[i]? =some t->ks[i]? =some k->ofT V t=k
 |[],_,_,_,i,t,k,h,_=>by simp at h
 |_::_,[],_,_,i,t,k,_,h=>by simp at h
 |t::ts,k::ks,f,h,0,t',k',h1,h2=>by
  rw[Zb]at h
  simp at h h1 h2;subst h1 h2;exact h.1.1
 |t::ts,k::ks,f,h,i+1,t',k',h1,h2=>by
  rw[Zb]at h
  simp at h h1 h2;exact XX h.2 i t' k' h1 h2
end Go.Proofs.YtkoikjnlpifbjaaGreat
namespace Go.Proofs.YtkoikjnlpifbjaaGreat
open Go.RowKit
structure Ms where
 vals:List Int
 arrs:List (List Int)
 fuel:Nat
 steps:Nat
 evs:List EvV
 out:Option (Int×Int)
def Ms.stop (s:Ms)(k v:Int):Ms:={ s with out:=some (k,v) }
def Ms.stopped (s:Ms)(k v:Int):Ms:=if s.out.isSome then s else s.stop k v
def Ms.tick (s:Ms):Ms:={ s with fuel:=s.fuel-1,steps:=s.steps+1 }
def Ms.setv (s:Ms)(v a:Int):Ms:={ s with vals:=s.vals.set v.toNat a,evs:=s.evs++[⟨v, -1,a⟩] }
def Ms.arr (s:Ms)(v:Int):List Int:=(s.arrs[v.toNat]?).getD []
def Ms.seta (s:Ms)(v i a:Int):Ms:={ s with arrs:=s.arrs.set v.toNat ((s.arr v).set i.toNat a),evs:=s.evs++[⟨v,i,a⟩] }
def tr (b:Bool):Int:=if b then 1 else 0
def Zn (tag a b:Int):Option Int:=
 if tag=7 then some (wrap64 (a+b))else if tag=8 then some (wrap64 (a-b))else if tag=9 then some (wrap64 (a*b))
 else if tag=10 then(if b=0 then none else some (wrap64 (a.tdiv b)))else if tag=11 then(if b=0 then none else some (a.tmod b))
 else if tag=12 then some (tr (decide (a=b)))else if tag=13 then some (tr (decide (a≠b)))else if tag=14 then some (tr (decide (a<b)))
 else if tag=15 then some (tr (decide (a<=b)))else if tag=16 then some (tr (decide (b<a)))else some (tr (decide (b<=a)))
def evT:Nat->Tr->Ms->Int×Ms
 |0,_,s=>(0,s)
 |n+1,.node x ks,s=>
  if s.out.isSome then(0,s)else if s.fuel=0 then(0,s.stop 4 0)
  else if x.tag=1\/x.tag=2 then(x.n,s.tick)else if x.tag=3 then((s.vals[x.n.toNat]?).getD 0,s.tick)else if x.tag=26 then(0,s.tick)
  else if x.tag=20 then(0,ks.foldl (λs k=>(evT n k s).2) s.tick)
  else
   let p:=evT n (ks.getD 0 (.node x [])) s.tick
   if p.2.out.isSome then(0,p.2)
   else if x.tag=4 then(if p.1<0\/((p.2.arr x.n).length:Int)<=p.1 then(0,p.2.stop 2 0)else(((p.2.arr x.n)[p.1.toNat]?).getD 0,p.2))
   else if x.tag=5 then(wrap64 (-p.1),p.2)else if x.tag=6 then(1-p.1,p.2)
   else if x.tag=18 then(if p.1=0 then(0,p.2)else evT n (ks.getD 1 (.node x [])) p.2)
   else if x.tag=19 then(if p.1=1 then(1,p.2)else evT n (ks.getD 1 (.node x [])) p.2)
   else if x.tag=21 then(0,p.2.setv x.n p.1)
   else if x.tag=23 then evT n (ks.getD (2-p.1).toNat (.node x [])) p.2
   else if x.tag=24 then(if p.1=1 then(0,(evT n (.node x ks) (evT n (ks.getD 1 (.node x [])) p.2).2).2)else(0,p.2))
   else if x.tag=25 then(0,p.2.stop 0 p.1)
   else
    let q:=evT n (ks.getD 1 (.node x [])) p.2
    if q.2.out.isSome then(0,q.2)
    else if x.tag=22 then(if p.1<0\/((q.2.arr x.n).length:Int)<=p.1 then(0,q.2.stop 2 0)else(0,q.2.seta x.n p.1 q.1))
    else match Zn x.tag p.1 q.1 with|none=>(0,q.2.stop 1 0)|some c=>(c,q.2)
inductive Shape (V:List Int):Nd->List Tr->Int->Prop
 |int (x:Nd) (h:x.tag=1):Shape V x [] 0
 |bool (x:Nd) (h:x.tag=2) (hn:x.n=0\/x.n=1):Shape V x [] 1
 |var (x:Nd) (k:Int) (h:x.tag=3) (hn:0<=x.n) (hv:V[x.n.toNat]? =some k) (hk:k=0\/k=1):Shape V x [] k
 |skip (x:Nd) (h:x.tag=26):Shape V x [] 2
 |block (x:Nd) (ks:List Tr) (h:x.tag=20) (hk:∀k∈ks,ofT V k=2):Shape V x ks 2
 |at_ (x:Nd) (a:Tr) (h:x.tag=4) (hn:0<=x.n) (t:Int) (hv:V[x.n.toNat]? =some t) (ht:QC t≠0) (ha:ofT V a=0):Shape V x [a] 0
 |neg (x:Nd) (a:Tr) (h:x.tag=5) (ha:ofT V a=0):Shape V x [a] 0
 |not (x:Nd) (a:Tr) (h:x.tag=6) (ha:ofT V a=1):Shape V x [a] 1
 |pair (x:Nd) (a b:Tr) (k:Int) (h:7<=x.tag/\x.tag<=17) (hk:k=if x.tag<=11 then 0 else 1) (ha:ofT V a=0) (hb:ofT V b=0):Shape V x [a,b] k
 |logic (x:Nd) (a b:Tr) (h:x.tag=18\/x.tag=19) (ha:ofT V a=1) (hb:ofT V b=1):Shape V x [a,b] 1
 |set (x:Nd) (a:Tr) (h:x.tag=21) (hn:0<=x.n) (t:Int) (hv:V[x.n.toNat]? =some t) (ht:t=0\/t=1) (ha:ofT V a=t):Shape V x [a] 2
 |put (x:Nd) (a b:Tr) (h:x.tag=22) (hn:0<=x.n) (t:Int) (hv:V[x.n.toNat]? =some t) (ht:QC t≠0) (ha:ofT V a=0) (hb:ofT V b=0):Shape V x [a,b] 2
 |ifs (x:Nd) (a b c:Tr) (h:x.tag=23) (ha:ofT V a=1) (hb:ofT V b=2) (hc:ofT V c=2) (tb:b.root.tag=20) (tc:c.root.tag=20):Shape V x [a,b,c] 2
 |while (x:Nd) (a b:Tr) (h:x.tag=24) (ha:ofT V a=1) (hb:ofT V b=2) (tb:b.root.tag=20):Shape V x [a,b] 2
 |ret (x:Nd) (a:Tr) (h:x.tag=25) (ha:ofT V a=0):Shape V x [a] 2
theorem Aj2{α:Type}{l:List α}(h:l.length=0):l=[]:=Lt h
theorem Aio{α:Type}{l:List α}(h:l.length=1):∃a,l=[a]:=by
 match l,h with
 |[a],_=>exact⟨a,rfl⟩
theorem AgV{α:Type}{l:List α}(h:l.length=2):∃a b,l=[a,b]:=by
 match l,h with
 |[a,b],_=>exact⟨a,b,rfl⟩
theorem Al2{α:Type}{l:List α}(h:l.length=3):∃a b c,l=[a,b,c]:=by
 match l,h with
 |[a,b,c],_=>exact⟨a,b,c,rfl⟩
theorem Zv{V:List Int}{inn f:Bool}{t:Tr}{ts:List Tr}{k:Int}{ks:List Int}:Zb V inn f (t::ts) (k::ks)=(ofT V t==k && (!(inn && !f) || t.root.tag==20) && Zb V inn false ts ks):=by rw[Zb]
theorem ZE{V:List Int}{inn f:Bool}{ks:List Int}:Zb V inn f [] ks=true:=by rw[Zb]
theorem Aa2{x:Nd}(h:0<=Qv x):x.tag=1\/(0<=x.n/\x.n<=(Q9 x).1):=by
 unfold Qv at h;by_cases c:x.tag=1
 ·exact .inl c
 ·rw[if_neg c]at h;split at h
  ·omega
  ·right;omega
theorem Ae4{x:Nd}(h:0<=(Q9 x).1):2<=x.tag/\x.tag<=26:=by
 unfold Q9 at h;by_cases c:2<=x.tag/\x.tag<=26
 ·exact c
 ·rw[if_neg (by omega),if_neg (by omega),if_neg (by omega),if_neg (by omega),if_neg (by omega),if_neg (by omega),if_neg (by omega),if_neg (by omega),if_neg (by omega),if_neg (by omega)]at h;simp at h
theorem AlI{V:List Int}{x:Nd}{ks:List Tr}(hf:(Tr.node x ks).fits)(h:ofT V (.node x ks)≠ -1):Shape V x ks (ofT V (.node x ks)):=by
 obtain⟨v,j,g,d⟩:=Xa h;rw[v];have p:=Aa2 (x:=x) (by have:=hf.arity;simp[Tr.root,Tr.kids]at this;omega);clear v h hf;by_cases u:x.tag=1
 ·simp only[isZ,QY,u]at j g|-;obtain rfl:=Aj2 (l:=ks) (by simpa using g.symm);exact .int x u
 have p:0<=x.n/\x.n<=(Q9 x).1:=by omega
 have ht:=Ae4 (x:=x) (by omega);obtain⟨t,z⟩:∃t,t=x.tag:=⟨_,rfl⟩;have w:x.tag=2\/x.tag=3\/x.tag=4\/x.tag=5\/x.tag=6\/(7<=x.tag/\x.tag<=11)\/(12<=x.tag/\x.tag<=17)\/x.tag=18\/x.tag=19\/x.tag=20\/x.tag=21\/x.tag=22\/x.tag=23\/x.tag=24\/x.tag=25\/x.tag=26:=by omega
 rcases w with e|e|e|e|e|e|e|e|e|e|e|e|e|e|e|e
 ·simp[isZ,QY,Q9,e]at j g p|-;obtain rfl:=Aj2 (l:=ks) g.symm;exact .bool x e (by omega)
 ·simp[isZ,QY,e]at j g|-;obtain rfl:=Aj2 (l:=ks) g.symm;obtain⟨k,o,m⟩:=Yl j.1;rw[if_pos j.1,o];exact .var x k e p.1 o m
 ·simp[isZ,QY,e]at j g d|-;obtain⟨a,rfl⟩:=Aio g.symm;obtain⟨k,o,m⟩:=Em j;rw[if_pos j];simp[Zv,ZE,ZH,e]at d;exact .at_ x a e p.1 k o m d
 ·simp[isZ,QY,e]at j g d|-;obtain⟨a,rfl⟩:=Aio g.symm;simp[Zv,ZE,ZH,e]at d;exact .neg x a e d
 ·simp[isZ,QY,e]at j g d|-;obtain⟨a,rfl⟩:=Aio g.symm;simp[Zv,ZE,ZH,e]at d;exact .not x a e d
 ·have q:isZ V x=0:=by unfold isZ;rw[if_neg (by omega),if_neg (by omega),if_neg (by omega),if_neg (by omega),if_neg (by omega),if_neg (by omega),if_pos (by omega)]
  have s:∀n,QY V x n=[0,0]:=λn=>by unfold QY;rw[if_neg (by omega),if_neg (by omega),if_pos (by omega)]
  rw[s]at g d;obtain⟨a,b,rfl⟩:=AgV g.symm;have hi:ZH x=false:=by simp[ZH];omega
  simp[Zv,ZE,hi]at d;rw[q];exact .pair x a b 0 (by omega) (by rw[if_pos (by omega)]) d.1 d.2
 ·have q:isZ V x=1:=by unfold isZ;rw[if_neg (by omega),if_neg (by omega),if_neg (by omega),if_neg (by omega),if_neg (by omega),if_neg (by omega),if_neg (by omega),if_pos (by omega)]
  have s:∀n,QY V x n=[0,0]:=λn=>by unfold QY;rw[if_neg (by omega),if_neg (by omega),if_pos (by omega)]
  rw[s]at g d;obtain⟨a,b,rfl⟩:=AgV g.symm;have hi:ZH x=false:=by simp[ZH];omega
  simp[Zv,ZE,hi]at d;rw[q];exact .pair x a b 1 (by omega) (by rw[if_neg (by omega)]) d.1 d.2
 ·simp[isZ,QY,e]at j g d|-;obtain⟨a,b,rfl⟩:=AgV g.symm;simp[Zv,ZE,ZH,e]at d;exact .logic x a b (.inl e) d.1 d.2
 ·simp[isZ,QY,e]at j g d|-;obtain⟨a,b,rfl⟩:=AgV g.symm;simp[Zv,ZE,ZH,e]at d;exact .logic x a b (.inr e) d.1 d.2
 ·simp[isZ,QY,e]at j g d|-;refine .block x ks e ?_;have hi:ZH x=false:=by simp[ZH,e]
  rw[hi]at d;intro k y;obtain⟨i,hi,rfl⟩:=List.mem_iff_getElem.1 y;exact XX d i _ 2 (Lb hi) (by simp[hi])
 ·simp[isZ,QY,e]at j g d|-;obtain⟨a,rfl⟩:=Aio g.symm;obtain⟨k,o,m⟩:=Yl j;rw[if_pos j];simp[Zv,ZE,ZH,e,o]at d;exact .set x a e p.1 k o m d
 ·simp[isZ,QY,e]at j g d|-;obtain⟨a,b,rfl⟩:=AgV g.symm;obtain⟨k,o,m⟩:=Em j;rw[if_pos j];simp[Zv,ZE,ZH,e]at d;exact .put x a b e p.1 k o m d.1 d.2
 ·simp[isZ,QY,e]at j g d|-;obtain⟨a,b,c,rfl⟩:=Al2 g.symm;simp[Zv,ZE,ZH,e]at d;exact .ifs x a b c e d.1 d.2.1.1 d.2.2.1 d.2.1.2 d.2.2.2
 ·simp[isZ,QY,e]at j g d|-;obtain⟨a,b,rfl⟩:=AgV g.symm;simp[Zv,ZE,ZH,e]at d;exact .while x a b e d.1 d.2.1 d.2.2
 ·simp[isZ,QY,e]at j g d|-;obtain⟨a,rfl⟩:=Aio g.symm;simp[Zv,ZE,ZH,e]at d;exact .ret x a e d
 ·simp[isZ,QY,e]at j g d|-;obtain rfl:=Aj2 (l:=ks) g.symm;exact .skip x e
inductive Gl where
 |one (t:Tr)
 |all (ts:List Tr)
def Ms.go (s:Ms):Prop:=s.out=none/\s.fuel≠0
def XT (tag:Int):Prop:=¬(tag=1\/tag=2\/tag=3\/tag=20\/tag=26)
def wide (tag:Int):Prop:=XT tag/\¬(tag=4\/tag=5\/tag=6\/tag=18\/tag=19\/tag=21\/tag=23\/tag=24\/tag=25)
inductive Big:Gl->Ms->Int->Ms->Prop
 |nil (s:Ms):Big (.all []) s 0 s
 |cons (t:Tr) (ts:List Tr) (s s1 s2:Ms) (v u:Int) (h1:Big (.one t) s v s1) (h2:Big (.all ts) s1 u s2):Big (.all (t::ts)) s 0 s2
 |over (t:Tr) (s:Ms) (h:s.out.isSome=true):Big (.one t) s 0 s
 |empty (t:Tr) (s:Ms) (h:s.out=none) (h0:s.fuel=0):Big (.one t) s 0 (s.stop 4 0)
 |lit (x:Nd) (s:Ms) (h:s.go) (ht:x.tag=1\/x.tag=2):Big (.one (.node x [])) s x.n s.tick
 |var (x:Nd) (s:Ms) (h:s.go) (ht:x.tag=3):Big (.one (.node x [])) s ((s.vals[x.n.toNat]?).getD 0) s.tick
 |skip (x:Nd) (s:Ms) (h:s.go) (ht:x.tag=26):Big (.one (.node x [])) s 0 s.tick
 |block (x:Nd) (ks:List Tr) (s s1:Ms) (u:Int) (h:s.go) (ht:x.tag=20) (h1:Big (.all ks) s.tick u s1):Big (.one (.node x ks)) s 0 s1
 |cut (x:Nd) (a:Tr) (ks:List Tr) (s s1:Ms) (v:Int) (h:s.go) (ht:XT x.tag) (h1:Big (.one a) s.tick v s1) (ho:s1.out.isSome=true):Big (.one (.node x (a::ks))) s 0 s1
 |atNo (x:Nd) (a:Tr) (s s1:Ms) (v:Int) (h:s.go) (ht:x.tag=4) (h1:Big (.one a) s.tick v s1) (ho:s1.out=none) (hb:v<0\/((s1.arr x.n).length:Int)<=v):Big (.one (.node x [a])) s 0 (s1.stop 2 0)
 |at_ (x:Nd) (a:Tr) (s s1:Ms) (v:Int) (h:s.go) (ht:x.tag=4) (h1:Big (.one a) s.tick v s1) (ho:s1.out=none) (hb:¬(v<0\/((s1.arr x.n).length:Int)<=v)):Big (.one (.node x [a])) s (((s1.arr x.n)[v.toNat]?).getD 0) s1
 |neg (x:Nd) (a:Tr) (s s1:Ms) (v:Int) (h:s.go) (ht:x.tag=5) (h1:Big (.one a) s.tick v s1) (ho:s1.out=none):Big (.one (.node x [a])) s (wrap64 (-v)) s1
 |not (x:Nd) (a:Tr) (s s1:Ms) (v:Int) (h:s.go) (ht:x.tag=6) (h1:Big (.one a) s.tick v s1) (ho:s1.out=none):Big (.one (.node x [a])) s (1-v) s1
 |and0 (x:Nd) (a b:Tr) (s s1:Ms) (h:s.go) (ht:x.tag=18) (h1:Big (.one a) s.tick 0 s1) (ho:s1.out=none):Big (.one (.node x [a,b])) s 0 s1
 |and1 (x:Nd) (a b:Tr) (s s1 s2:Ms) (v u:Int) (h:s.go) (ht:x.tag=18) (h1:Big (.one a) s.tick v s1) (ho:s1.out=none) (hv:v≠0) (h2:Big (.one b) s1 u s2):Big (.one (.node x [a,b])) s u s2
 |or1 (x:Nd) (a b:Tr) (s s1:Ms) (h:s.go) (ht:x.tag=19) (h1:Big (.one a) s.tick 1 s1) (ho:s1.out=none):Big (.one (.node x [a,b])) s 1 s1
 |or0 (x:Nd) (a b:Tr) (s s1 s2:Ms) (v u:Int) (h:s.go) (ht:x.tag=19) (h1:Big (.one a) s.tick v s1) (ho:s1.out=none) (hv:v≠1) (h2:Big (.one b) s1 u s2):Big (.one (.node x [a,b])) s u s2
 |set (x:Nd) (a:Tr) (s s1:Ms) (v:Int) (h:s.go) (ht:x.tag=21) (h1:Big (.one a) s.tick v s1) (ho:s1.out=none):Big (.one (.node x [a])) s 0 (s1.setv x.n v)
 |ifs (x:Nd) (a b c t:Tr) (s s1 s2:Ms) (v u:Int) (h:s.go) (ht:x.tag=23) (h1:Big (.one a) s.tick v s1) (ho:s1.out=none) (hv:[a,b,c][(2-v).toNat]? =some t) (h2:Big (.one t) s1 u s2):Big (.one (.node x [a,b,c])) s u s2
 |while0 (x:Nd) (a b:Tr) (s s1:Ms) (v:Int) (h:s.go) (ht:x.tag=24) (h1:Big (.one a) s.tick v s1) (ho:s1.out=none) (hv:v≠1):Big (.one (.node x [a,b])) s 0 s1
 |while1 (x:Nd) (a b:Tr) (s s1 s2 s3:Ms) (u r:Int) (h:s.go) (ht:x.tag=24) (h1:Big (.one a) s.tick 1 s1) (ho:s1.out=none) (h2:Big (.one b) s1 u s2) (h3:Big (.one (.node x [a,b])) s2 r s3):Big (.one (.node x [a,b])) s 0 s3
 |ret (x:Nd) (a:Tr) (s s1:Ms) (v:Int) (h:s.go) (ht:x.tag=25) (h1:Big (.one a) s.tick v s1) (ho:s1.out=none):Big (.one (.node x [a])) s 0 (s1.stop 0 v)
 |cut2 (x:Nd) (a b:Tr) (s s1 s2:Ms) (v u:Int) (h:s.go) (ht:wide x.tag) (h1:Big (.one a) s.tick v s1) (ho:s1.out=none) (h2:Big (.one b) s1 u s2) (ho2:s2.out.isSome=true):Big (.one (.node x [a,b])) s 0 s2
 |putNo (x:Nd) (a b:Tr) (s s1 s2:Ms) (v u:Int) (h:s.go) (ht:x.tag=22) (h1:Big (.one a) s.tick v s1) (ho:s1.out=none) (h2:Big (.one b) s1 u s2) (ho2:s2.out=none) (hb:v<0\/((s2.arr x.n).length:Int)<=v):Big (.one (.node x [a,b])) s 0 (s2.stop 2 0)
 |put (x:Nd) (a b:Tr) (s s1 s2:Ms) (v u:Int) (h:s.go) (ht:x.tag=22) (h1:Big (.one a) s.tick v s1) (ho:s1.out=none) (h2:Big (.one b) s1 u s2) (ho2:s2.out=none) (hb:¬(v<0\/((s2.arr x.n).length:Int)<=v)):Big (.one (.node x [a,b])) s 0 (s2.seta x.n v u)
 |pairNo (x:Nd) (a b:Tr) (s s1 s2:Ms) (v u:Int) (h:s.go) (ht:7<=x.tag/\x.tag<=17) (h1:Big (.one a) s.tick v s1) (ho:s1.out=none) (h2:Big (.one b) s1 u s2) (ho2:s2.out=none) (hp:Zn x.tag v u=none):Big (.one (.node x [a,b])) s 0 (s2.stop 1 0)
 |pair (x:Nd) (a b:Tr) (s s1 s2:Ms) (v u c:Int) (h:s.go) (ht:7<=x.tag/\x.tag<=17) (h1:Big (.one a) s.tick v s1) (ho:s1.out=none) (h2:Big (.one b) s1 u s2) (ho2:s2.out=none) (hp:Zn x.tag v u=some c):Big (.one (.node x [a,b])) s c s2
theorem QW{s:Ms}(h:s.go):¬s.out.isSome=true/\¬s.fuel=0:=by rw[h.1];exact⟨by simp,h.2⟩
theorem QK{s:Ms}(h:s.go):s.tick.fuel+1=s.fuel:=by have:=h.2;simp[Ms.tick];omega
structure Ext (s s':Ms):Prop where
 fuel:s'.fuel<=s.fuel
 sum:s'.fuel+s'.steps=s.fuel+s.steps
 evs:∃m,s'.evs=s.evs++m
 few:s'.evs.length+s.steps<=s.evs.length+s'.steps
theorem Ext.refl (s:Ms):Ext s s:=⟨Nat.le_refl _,rfl,⟨[],by simp⟩,Nat.le_refl _⟩
theorem Ext.trans{a b c:Ms}(h:Ext a b)(k:Ext b c):Ext a c:=by
 obtain⟨m,e⟩:=h.evs;obtain⟨g,d⟩:=k.evs;exact⟨Ld k.fuel h.fuel,k.sum.trans h.sum,⟨m++g,by rw[d,e,Ly]⟩,by have:=h.few;have:=k.few;omega⟩
theorem Ext.stop{a b:Ms}(h:Ext a b)(k v:Int):Ext a (b.stop k v):=⟨h.fuel,h.sum,h.evs,h.few⟩
theorem Ext.tick{s:Ms}(h:s.go):Ext s s.tick:=⟨by simp[Ms.tick],by have:=h.2;simp[Ms.tick];omega,⟨[],by simp[Ms.tick]⟩,by simp[Ms.tick]⟩
theorem Ah8{s b:Ms}{e:EvV}(hg:s.go)(h:Ext s.tick b){c:Ms}(hf:c.fuel=b.fuel)(hs:c.steps=b.steps)(he:c.evs=b.evs++[e]):Ext s c:=by
 obtain⟨m,i⟩:=h.evs;have j:=h.sum;have g:=h.few;have k:=h.fuel;have l:=(Ext.tick hg).sum;have n:=(Ext.tick hg).fuel;have o:s.tick.steps=s.steps+1:=rfl;have d:s.tick.evs=s.evs:=rfl;exact⟨by omega,by omega,⟨m++[e],by rw[he,i,d,Ly]⟩,by rw[he,Le,Nf];rw[d]at g;omega⟩
theorem Big.ext{g:Gl}{s s':Ms}{v:Int}(h:Big g s v s'):Ext s s':=by
 induction h with
 |nil s=>exact .refl s
 |cons t ts s s1 s2 v u h1 h2 i1 i2=>exact i1.trans i2
 |over t s h=>exact .refl s
 |empty t s h h0=>exact(Ext.refl s).stop 4 0
 |lit x s h ht=>exact .tick h
 |var x s h ht=>exact .tick h
 |skip x s h ht=>exact .tick h
 |block x ks s s1 u h ht h1 i1=>exact(Ext.tick h).trans i1
 |cut x a ks s s1 v h ht h1 ho i1=>exact(Ext.tick h).trans i1
 |atNo x a s s1 v h ht h1 ho hb i1=>exact((Ext.tick h).trans i1).stop _ _
 |at_ x a s s1 v h ht h1 ho hb i1=>exact(Ext.tick h).trans i1
 |neg x a s s1 v h ht h1 ho i1=>exact(Ext.tick h).trans i1
 |not x a s s1 v h ht h1 ho i1=>exact(Ext.tick h).trans i1
 |and0 x a b s s1 h ht h1 ho i1=>exact(Ext.tick h).trans i1
 |and1 x a b s s1 s2 v u h ht h1 ho hv h2 i1 i2=>exact((Ext.tick h).trans i1).trans i2
 |or1 x a b s s1 h ht h1 ho i1=>exact(Ext.tick h).trans i1
 |or0 x a b s s1 s2 v u h ht h1 ho hv h2 i1 i2=>exact((Ext.tick h).trans i1).trans i2
 |set x a s s1 v h ht h1 ho i1=>exact Ah8 h i1 rfl rfl rfl
 |ifs x a b c t s s1 s2 v u h ht h1 ho hv h2 i1 i2=>exact((Ext.tick h).trans i1).trans i2
 |while0 x a b s s1 v h ht h1 ho hv i1=>exact(Ext.tick h).trans i1
 |while1 x a b s s1 s2 s3 u r h ht h1 ho h2 h3 i1 i2 i3=>exact(((Ext.tick h).trans i1).trans i2).trans i3
 |ret x a s s1 v h ht h1 ho i1=>exact((Ext.tick h).trans i1).stop _ _
 |cut2 x a b s s1 s2 v u h ht h1 ho h2 ho2 i1 i2=>exact((Ext.tick h).trans i1).trans i2
 |putNo x a b s s1 s2 v u h ht h1 ho h2 ho2 hb i1 i2=>exact(((Ext.tick h).trans i1).trans i2).stop _ _
 |put x a b s s1 s2 v u h ht h1 ho h2 ho2 hb i1 i2=>exact Ah8 h (i1.trans i2) rfl rfl rfl
 |pairNo x a b s s1 s2 v u h ht h1 ho h2 ho2 hp i1 i2=>exact(((Ext.tick h).trans i1).trans i2).stop _ _
 |pair x a b s s1 s2 v u c h ht h1 ho h2 ho2 hp i1 i2=>exact((Ext.tick h).trans i1).trans i2
def evG (n:Nat):Gl->Ms->Int×Ms
 | .one t,s=>evT n t s
 | .all ts,s=>(0,ts.foldl (λs k=>(evT n k s).2) s)
theorem QN{α:Type}{o:Option α}(h:o=none):¬o.isSome=true:=by rw[h];simp
theorem Big.ev{g:Gl}{s s':Ms}{v:Int}(h:Big g s v s'):∀n,s.fuel<n->evG n g s=(v,s'):=by
 induction h with
 |nil s=>intro n i;rfl
 |cons t ts s s1 s2 v u h1 h2 i1 i2=>
  intro n i;have d:=i1 n i;have e:=i2 n (N0 h1.ext.fuel i);simp only[evG,List.foldl_cons,Prod.mk.injEq]at d e|-;rw[d];exact⟨trivial,e.2⟩
 |over t s h=>
  intro n i;obtain⟨m,rfl⟩:∃m,n=m+1:=⟨n-1,by omega⟩;cases t;rw[evG,evT,if_pos h]
 |empty t s h h0=>
  intro n i;obtain⟨m,rfl⟩:∃m,n=m+1:=⟨n-1,by omega⟩;cases t;rw[evG,evT,if_neg (QN h),if_pos h0]
 |lit x s h ht=>
  intro n i;obtain⟨m,rfl⟩:∃m,n=m+1:=⟨n-1,by omega⟩;rw[evG,evT,if_neg (QW h).1,if_neg (QW h).2,if_pos ht]
 |var x s h ht=>
  intro n i;obtain⟨m,rfl⟩:∃m,n=m+1:=⟨n-1,by omega⟩;rw[evG,evT,if_neg (QW h).1,if_neg (QW h).2,if_neg (by omega),if_pos ht]
 |skip x s h ht=>
  intro n i;obtain⟨m,rfl⟩:∃m,n=m+1:=⟨n-1,by omega⟩;rw[evG,evT,if_neg (QW h).1,if_neg (QW h).2,if_neg (by omega),if_neg (by omega),if_pos ht]
 |block x ks s s1 u h ht h1 i1=>
  intro n i;obtain⟨m,rfl⟩:∃m,n=m+1:=⟨n-1,by omega⟩;have d:=i1 m (by have:=QK h;omega);rw[evG,evT,if_neg (QW h).1,if_neg (QW h).2,if_neg (by omega),if_neg (by omega),if_neg (by omega),if_pos ht];simp only[evG,Prod.mk.injEq]at d|-;exact⟨trivial,d.2⟩
 |cut x a ks s s1 v h ht h1 ho i1=>
  intro n i;obtain⟨m,rfl⟩:∃m,n=m+1:=⟨n-1,by omega⟩;have d:=i1 m (by have:=QK h;omega);unfold XT at ht;rw[evG,evT,if_neg (QW h).1,if_neg (QW h).2,if_neg (by omega),if_neg (by omega),if_neg (by omega),if_neg (by omega)];simp only[evG]at d;simp only[LC,d,ho,if_true]
 |atNo x a s s1 v h ht h1 ho hb i1=>
  intro n i;obtain⟨m,rfl⟩:∃m,n=m+1:=⟨n-1,by omega⟩;have d:=i1 m (by have:=QK h;omega);rw[evG,evT,if_neg (QW h).1,if_neg (QW h).2,if_neg (by omega),if_neg (by omega),if_neg (by omega),if_neg (by omega)];simp only[evG]at d;simp only[LC,d];rw[if_neg (QN ho),if_pos ht,if_pos hb]
 |at_ x a s s1 v h ht h1 ho hb i1=>
  intro n i;obtain⟨m,rfl⟩:∃m,n=m+1:=⟨n-1,by omega⟩;have d:=i1 m (by have:=QK h;omega);rw[evG,evT,if_neg (QW h).1,if_neg (QW h).2,if_neg (by omega),if_neg (by omega),if_neg (by omega),if_neg (by omega)];simp only[evG]at d;simp only[LC,d];rw[if_neg (QN ho),if_pos ht,if_neg hb]
 |neg x a s s1 v h ht h1 ho i1=>
  intro n i;obtain⟨m,rfl⟩:∃m,n=m+1:=⟨n-1,by omega⟩;have d:=i1 m (by have:=QK h;omega);rw[evG,evT,if_neg (QW h).1,if_neg (QW h).2,if_neg (by omega),if_neg (by omega),if_neg (by omega),if_neg (by omega)];simp only[evG]at d;simp only[LC,d];rw[if_neg (QN ho),if_neg (by omega),if_pos ht]
 |not x a s s1 v h ht h1 ho i1=>
  intro n i;obtain⟨m,rfl⟩:∃m,n=m+1:=⟨n-1,by omega⟩;have d:=i1 m (by have:=QK h;omega);rw[evG,evT,if_neg (QW h).1,if_neg (QW h).2,if_neg (by omega),if_neg (by omega),if_neg (by omega),if_neg (by omega)];simp only[evG]at d;simp only[LC,d];rw[if_neg (QN ho),if_neg (by omega),if_neg (by omega),if_pos ht]
 |and0 x a b s s1 h ht h1 ho i1=>
  intro n i;obtain⟨m,rfl⟩:∃m,n=m+1:=⟨n-1,by omega⟩;have d:=i1 m (by have:=QK h;omega);rw[evG,evT,if_neg (QW h).1,if_neg (QW h).2,if_neg (by omega),if_neg (by omega),if_neg (by omega),if_neg (by omega)];simp only[evG]at d;simp only[LC,d];rw[if_neg (QN ho),if_neg (by omega),if_neg (by omega),if_neg (by omega),if_pos ht,if_pos True.intro]
 |and1 x a b s s1 s2 v u h ht h1 ho hv h2 i1 i2=>
  intro n i;obtain⟨m,rfl⟩:∃m,n=m+1:=⟨n-1,by omega⟩;have d:=i1 m (by have:=QK h;omega);have e:=i2 m (by have:=QK h;have:=h1.ext.fuel;omega);rw[evG,evT,if_neg (QW h).1,if_neg (QW h).2,if_neg (by omega),if_neg (by omega),if_neg (by omega),if_neg (by omega)];simp only[evG]at d e;simp only[LC,LZ,d,e];rw[if_neg (QN ho),if_neg (by omega),if_neg (by omega),if_neg (by omega),if_pos ht,if_neg hv]
 |or1 x a b s s1 h ht h1 ho i1=>
  intro n i;obtain⟨m,rfl⟩:∃m,n=m+1:=⟨n-1,by omega⟩;have d:=i1 m (by have:=QK h;omega);rw[evG,evT,if_neg (QW h).1,if_neg (QW h).2,if_neg (by omega),if_neg (by omega),if_neg (by omega),if_neg (by omega)];simp only[evG]at d;simp only[LC,d];rw[if_neg (QN ho),if_neg (by omega),if_neg (by omega),if_neg (by omega),if_neg (by omega),if_pos ht,if_pos True.intro]
 |or0 x a b s s1 s2 v u h ht h1 ho hv h2 i1 i2=>
  intro n i;obtain⟨m,rfl⟩:∃m,n=m+1:=⟨n-1,by omega⟩;have d:=i1 m (by have:=QK h;omega);have e:=i2 m (by have:=QK h;have:=h1.ext.fuel;omega);rw[evG,evT,if_neg (QW h).1,if_neg (QW h).2,if_neg (by omega),if_neg (by omega),if_neg (by omega),if_neg (by omega)];simp only[evG]at d e;simp only[LC,LZ,d,e];rw[if_neg (QN ho),if_neg (by omega),if_neg (by omega),if_neg (by omega),if_neg (by omega),if_pos ht,if_neg hv]
 |set x a s s1 v h ht h1 ho i1=>
  intro n i;obtain⟨m,rfl⟩:∃m,n=m+1:=⟨n-1,by omega⟩;have d:=i1 m (by have:=QK h;omega);rw[evG,evT,if_neg (QW h).1,if_neg (QW h).2,if_neg (by omega),if_neg (by omega),if_neg (by omega),if_neg (by omega)];simp only[evG]at d;simp only[LC,d];rw[if_neg (QN ho),if_neg (by omega),if_neg (by omega),if_neg (by omega),if_neg (by omega),if_neg (by omega),if_pos ht]
 |ifs x a b c t s s1 s2 v u h ht h1 ho hv h2 i1 i2=>
  intro n i;obtain⟨m,rfl⟩:∃m,n=m+1:=⟨n-1,by omega⟩;have d:=i1 m (by have:=QK h;omega);have e:=i2 m (by have:=QK h;have:=h1.ext.fuel;omega);rw[evG,evT,if_neg (QW h).1,if_neg (QW h).2,if_neg (by omega),if_neg (by omega),if_neg (by omega),if_neg (by omega)];simp only[evG]at d e;have k:[a,b,c].getD (2-v).toNat (.node x [])=t:=by rw[LJ,hv];rfl
  simp only[LC,d];rw[if_neg (QN ho),if_neg (by omega),if_neg (by omega),if_neg (by omega),if_neg (by omega),if_neg (by omega),if_neg (by omega),if_pos ht,k,e]
 |while0 x a b s s1 v h ht h1 ho hv i1=>
  intro n i;obtain⟨m,rfl⟩:∃m,n=m+1:=⟨n-1,by omega⟩;have d:=i1 m (by have:=QK h;omega);rw[evG,evT,if_neg (QW h).1,if_neg (QW h).2,if_neg (by omega),if_neg (by omega),if_neg (by omega),if_neg (by omega)];simp only[evG]at d;simp only[LC,d];rw[if_neg (QN ho),if_neg (by omega),if_neg (by omega),if_neg (by omega),if_neg (by omega),if_neg (by omega),if_neg (by omega),if_neg (by omega),if_pos ht,if_neg hv]
 |while1 x a b s s1 s2 s3 u r h ht h1 ho h2 h3 i1 i2 i3=>
  intro n i;obtain⟨m,rfl⟩:∃m,n=m+1:=⟨n-1,by omega⟩;have d:=i1 m (by have:=QK h;omega);have e:=i2 m (by have:=QK h;have:=h1.ext.fuel;omega);have j:=i3 m (by have:=QK h;have:=h1.ext.fuel;have:=h2.ext.fuel;omega);rw[evG,evT,if_neg (QW h).1,if_neg (QW h).2,if_neg (by omega),if_neg (by omega),if_neg (by omega),if_neg (by omega)];simp only[evG]at d e j;simp only[LC,LZ,d,e,j];rw[if_neg (QN ho),if_neg (by omega),if_neg (by omega),if_neg (by omega),if_neg (by omega),if_neg (by omega),if_neg (by omega),if_neg (by omega),if_pos ht,if_pos True.intro]
 |ret x a s s1 v h ht h1 ho i1=>
  intro n i;obtain⟨m,rfl⟩:∃m,n=m+1:=⟨n-1,by omega⟩;have d:=i1 m (by have:=QK h;omega);rw[evG,evT,if_neg (QW h).1,if_neg (QW h).2,if_neg (by omega),if_neg (by omega),if_neg (by omega),if_neg (by omega)];simp only[evG]at d;simp only[LC,d];rw[if_neg (QN ho),if_neg (by omega),if_neg (by omega),if_neg (by omega),if_neg (by omega),if_neg (by omega),if_neg (by omega),if_neg (by omega),if_neg (by omega),if_pos ht]
 |cut2 x a b s s1 s2 v u h ht h1 ho h2 ho2 i1 i2=>
  intro n i;obtain⟨m,rfl⟩:∃m,n=m+1:=⟨n-1,by omega⟩;have d:=i1 m (by have:=QK h;omega);have e:=i2 m (by have:=QK h;have:=h1.ext.fuel;omega);unfold wide XT at ht;rw[evG,evT,if_neg (QW h).1,if_neg (QW h).2,if_neg (by omega),if_neg (by omega),if_neg (by omega),if_neg (by omega)];simp only[evG]at d e;simp only[LC,LZ,d,e];rw[if_neg (QN ho),if_neg (by omega),if_neg (by omega),if_neg (by omega),if_neg (by omega),if_neg (by omega),if_neg (by omega),if_neg (by omega),if_neg (by omega),if_neg (by omega),if_pos ho2]
 |putNo x a b s s1 s2 v u h ht h1 ho h2 ho2 hb i1 i2=>
  intro n i;obtain⟨m,rfl⟩:∃m,n=m+1:=⟨n-1,by omega⟩;have d:=i1 m (by have:=QK h;omega);have e:=i2 m (by have:=QK h;have:=h1.ext.fuel;omega);rw[evG,evT,if_neg (QW h).1,if_neg (QW h).2,if_neg (by omega),if_neg (by omega),if_neg (by omega),if_neg (by omega)];simp only[evG]at d e;simp only[LC,LZ,d,e];rw[if_neg (QN ho),if_neg (by omega),if_neg (by omega),if_neg (by omega),if_neg (by omega),if_neg (by omega),if_neg (by omega),if_neg (by omega),if_neg (by omega),if_neg (by omega),if_neg (QN ho2),if_pos ht,if_pos hb]
 |put x a b s s1 s2 v u h ht h1 ho h2 ho2 hb i1 i2=>
  intro n i;obtain⟨m,rfl⟩:∃m,n=m+1:=⟨n-1,by omega⟩;have d:=i1 m (by have:=QK h;omega);have e:=i2 m (by have:=QK h;have:=h1.ext.fuel;omega);rw[evG,evT,if_neg (QW h).1,if_neg (QW h).2,if_neg (by omega),if_neg (by omega),if_neg (by omega),if_neg (by omega)];simp only[evG]at d e;simp only[LC,LZ,d,e];rw[if_neg (QN ho),if_neg (by omega),if_neg (by omega),if_neg (by omega),if_neg (by omega),if_neg (by omega),if_neg (by omega),if_neg (by omega),if_neg (by omega),if_neg (by omega),if_neg (QN ho2),if_pos ht,if_neg hb]
 |pairNo x a b s s1 s2 v u h ht h1 ho h2 ho2 hp i1 i2=>
  intro n i;obtain⟨m,rfl⟩:∃m,n=m+1:=⟨n-1,by omega⟩;have d:=i1 m (by have:=QK h;omega);have e:=i2 m (by have:=QK h;have:=h1.ext.fuel;omega);rw[evG,evT,if_neg (QW h).1,if_neg (QW h).2,if_neg (by omega),if_neg (by omega),if_neg (by omega),if_neg (by omega)];simp only[evG]at d e;simp only[LC,LZ,d,e];rw[if_neg (QN ho),if_neg (by omega),if_neg (by omega),if_neg (by omega),if_neg (by omega),if_neg (by omega),if_neg (by omega),if_neg (by omega),if_neg (by omega),if_neg (by omega),if_neg (QN ho2),if_neg (by omega),hp]
 |pair x a b s s1 s2 v u c h ht h1 ho h2 ho2 hp i1 i2=>
  intro n i;obtain⟨m,rfl⟩:∃m,n=m+1:=⟨n-1,by omega⟩;have d:=i1 m (by have:=QK h;omega);have e:=i2 m (by have:=QK h;have:=h1.ext.fuel;omega);rw[evG,evT,if_neg (QW h).1,if_neg (QW h).2,if_neg (by omega),if_neg (by omega),if_neg (by omega),if_neg (by omega)];simp only[evG]at d e;simp only[LC,LZ,d,e];rw[if_neg (QN ho),if_neg (by omega),if_neg (by omega),if_neg (by omega),if_neg (by omega),if_neg (by omega),if_neg (by omega),if_neg (by omega),if_neg (by omega),if_neg (by omega),if_neg (QN ho2),if_neg (by omega),hp]
structure OkE (V:List Int)(e:EvV):Prop where
 ok:e.ok
 lo:0<=e.var
 how:∃t,V[e.var.toNat]? =some t/\((QC t=0/\e.at_= -1/\(t=0\/e.val=0\/e.val=1))\/(QC t≠0/\0<=e.at_/\e.at_<QC t))
structure OkS (V:List Int)(s:Ms):Prop where
 vlen:s.vals.length=V.length
 alen:s.arrs.length=V.length
 val:∀(i:Nat) (t v:Int),V[i]? =some t->s.vals[i]? =some v->InI v/\(t=1->v=0\/v=1)
 arr:∀(i:Nat) (t:Int) (a:List Int),V[i]? =some t->s.arrs[i]? =some a->(a.length:Int)=QC t/\∀x∈a,InI x
 evs:∀e∈s.evs,OkE V e
 out:∀k v,s.out=some (k,v)->(k=0/\InI v)\/(1<=k/\k<=4/\v=0)
 lim:V.length<=100
def okT (t:Tr):Prop:=∀x∈t.flat,InI x.n
def okO (V:List Int)(t:Tr):Prop:=t.fits/\ofT V t≠ -1/\okT t
def okG (V:List Int):Gl->Prop
 | .one t=>okO V t
 | .all ts=>∀t∈ts,okO V t/\ofT V t=2
def okV (V:List Int)(g:Gl)(v:Int)(s:Ms):Prop:=InI v/\(s.out=none->∀t,g=.one t->ofT V t=1->v=0\/v=1)
theorem Jf:InI 0:=by unfold InI;omega
theorem Ahx{v:Int}(h:v=0\/v=1):InI v:=by unfold InI;omega
theorem AcH (n:Int):InI (wrap64 n):=by unfold InI wrap64;omega
theorem AkN (b:Bool):InI (tr b):=by unfold tr;split<;>(unfold InI;omega)
theorem AlV (b:Bool):tr b=0\/tr b=1:=by unfold tr;split<;>omega
section
variable {V:List Int} {s:Ms} {x:Nd} {ks:List Tr}
theorem Abj:∀{ts:List Tr} {t:Tr} {y:Nd},t∈ts->y∈t.flat->y∈QM ts
 |[],_,_,h,_=>by simp at h
 |u::ts,t,y,h,hy=>by
  rw[QM,L2]
  rcases Ls.1 h with rfl|h
  ·exact .inl hy
  ·exact .inr (Abj h hy)
theorem Akb (h:okT (.node x ks)){k:Tr}(hk:k∈ks):okT k:=λy hy=>h y (by rw[Tr.flat];exact N9 _ (Abj hk hy))
theorem Aiz (h:okT (.node x ks)):InI x.n:=h x (by rw[Tr.flat];simp)
theorem Qu (h:okO V (.node x ks)):∃k,Shape V x ks k/\ofT V (.node x ks)=k:=⟨_,AlI h.1 h.2.1,rfl⟩
theorem Ql (h:okO V (.node x ks)){k:Tr}(hk:k∈ks):okO V k:=by
 refine⟨h.1.kid k hk,?_,Akb h.2.2 hk⟩;obtain⟨d,c,_⟩:=Qu h;cases c
 case block hb _=>rw[hb k hk];omega
 all_goals(first| (cases hk;done)|skip)
 all_goals(simp only[Ls,Lw,or_false]at hk)
 all_goals(first| (subst hk;omega)| (rcases hk with rfl|rfl|rfl<;>omega)| (rcases hk with rfl|rfl<;>omega))
theorem OkS.tick (h:OkS V s):OkS V s.tick:=⟨h.vlen,h.alen,h.val,h.arr,h.evs,h.out,h.lim⟩
theorem OkS.stop (h:OkS V s){k v:Int}(hk:(k=0/\InI v)\/(1<=k/\k<=4/\v=0)):OkS V (s.stop k v):=
 ⟨h.vlen,h.alen,h.val,h.arr,h.evs,λk' v' e=>by simp only[Ms.stop,Nc,Prod.mk.injEq]at e;obtain⟨rfl,rfl⟩:=e;exact hk,h.lim⟩
theorem OkS.setv (h:OkS V s){n t v:Int}(hn:0<=n)(hv:V[n.toNat]? =some t)(ht:t=0\/t=1)(hi:InI v)(h1:t=1->v=0\/v=1):OkS V (s.setv n v):=by
 have j:n.toNat<V.length:=(La.1 hv).1;have m:=h.lim;refine⟨by simp[Ms.setv,h.vlen],h.alen,λi k l d c=>?_,h.arr,λe g=>?_,h.out,h.lim⟩
 ·simp only[Ms.setv,List.getElem?_set]at c;split at c
  ·rename_i e;subst e;split at c
   ·injection c with e2;subst e2;rw[hv]at d;injection d with e3;subst e3;exact⟨hi,h1⟩
   ·cases c
  ·exact h.val i k l d c
 ·simp only[Ms.setv,L2,Lv]at g;rcases g with g|rfl
  ·exact h.evs e g
  ·refine⟨⟨by unfold InI;dsimp only;omega,by unfold InI;dsimp only;omega,hi⟩,hn,t,hv,.inl ⟨?_,rfl,?_⟩⟩
   ·unfold QC;rw[if_neg (by omega)]
   ·rcases ht with rfl|rfl
    ·exact .inl rfl
    ·exact .inr (h1 rfl)
theorem OkS.arr_len (h:OkS V s){n t:Int}(hv:V[n.toNat]? =some t):((s.arr n).length:Int)=QC t/\∀x∈s.arr n,InI x:=by
 have c:n.toNat<V.length:=(La.1 hv).1;have d:s.arrs[n.toNat]? =some (s.arrs[n.toNat]'(by rw[h.alen];exact c)):=Lb _;unfold Ms.arr;rw[d];exact h.arr _ _ _ hv d
theorem OkS.seta (h:OkS V s){n t i v:Int}(hn:0<=n)(hv:V[n.toNat]? =some t)(ht:QC t≠0)(hi:InI v)(hj:InI i)(hb:¬(i<0\/((s.arr n).length:Int)<=i)):OkS V (s.seta n i v):=by
 have p:n.toNat<V.length:=(La.1 hv).1;have u:=h.lim;obtain⟨o,m⟩:=h.arr_len hv;refine⟨h.vlen,by simp[Ms.seta,h.alen],h.val,λk q l d c=>?_,λe g=>?_,h.out,h.lim⟩
 ·simp only[Ms.seta,List.getElem?_set]at c;split at c
  ·rename_i e;subst e;split at c
   ·injection c with e2;subst e2;rw[hv]at d;injection d with e3;subst e3;refine⟨by simpa using o,λx j=>?_⟩;rcases List.mem_or_eq_of_mem_set j with j|rfl
    ·exact m x j
    ·exact hi
   ·cases c
  ·exact h.arr k q l d c
 ·simp only[Ms.seta,L2,Lv]at g;rcases g with g|rfl
  ·exact h.evs e g
  ·exact⟨⟨by unfold InI;dsimp only;omega,hj,hi⟩,hn,t,hv,.inr ⟨ht,by dsimp only;omega,by dsimp only;omega⟩⟩
theorem Ahy{a:Int}(b:Int)(h:InI a):InI (a.tmod b):=by
 unfold InI at*;have e:(a.tmod b).natAbs=a.natAbs % b.natAbs:=Int.natAbs_tmod a b;have g:a.natAbs % b.natAbs<=a.natAbs:=Nat.mod_le _ _;rcases Int.le_total 0 a with c|c
 ·have:=Int.tmod_nonneg b c;omega
 ·have d:0<=(-a).tmod b:=Int.tmod_nonneg b (by omega);rw[Int.neg_tmod]at d;omega
theorem AiI{tag a b c:Int}(ha:InI a)(h:Zn tag a b=some c):InI c/\(12<=tag->tag<=17->c=0\/c=1):=by
 unfold Zn at h
 repeat' split at h
 all_goals(first| (cases h;done)| (injection h with e;subst e;first|exact⟨AcH _,λ_ _=>by omega⟩|exact⟨Ahy _ ha,λ_ _=>by omega⟩|exact⟨AkN _,λ_ _=>AlV _⟩))
end
theorem Big.inv{V:List Int}{g:Gl}{s s':Ms}{v:Int}(h:Big g s v s'):okG V g->OkS V s->OkS V s'/\okV V g v s':=by
 induction h with
 |nil s=>exact λ_ i=>⟨i,Jf,λ_ _ e=>by cases e⟩
 |cons t ts s s1 s2 v u l h2 i1 i2=>
  intro d i;obtain⟨a,_⟩:=i1 (d t (by simp)).1 i;exact⟨(i2 (λk o=>d k (by simp[o])) a).1,Jf,λ_ _ e=>by cases e⟩
 |over t s h=>exact λ_ i=>⟨i,Jf,λe=>by rw[e]at h;cases h⟩
 |empty t s h h0=>exact λ_ i=>⟨i.stop (.inr ⟨by omega,by omega,rfl⟩),Jf,λe=>by cases e⟩
 |lit x s h ht=>
  intro d i;refine⟨i.tick,Aiz d.2.2,λ_ t e l=>?_⟩;injection e with e;subst e;obtain⟨k,m,o⟩:=Qu d;cases m<;>first|omega|assumption
 |var x s h ht=>
  intro d i;obtain⟨k,m,o⟩:=Qu d
  have:∃t v,V[x.n.toNat]? =some t/\ofT V (.node x [])=t/\s.vals[x.n.toNat]? =some v:=by
   cases m<;>first|omega|skip
   rename_i z p aa;refine⟨_,s.vals[x.n.toNat]'(by rw[i.vlen];exact(La.1 p).1),p,o,Lb _⟩
  obtain⟨t,v,p,ad,he⟩:=this;have:=i.val _ _ _ p he;rw[he];exact⟨i.tick,this.1,λ_ t' e l=>by injection e with e;subst e;exact this.2 (by omega)⟩
 |skip x s h ht=>
  intro d i;refine⟨i.tick,Jf,λ_ t e l=>.inl rfl⟩
 |block x ks s s1 u h ht l i1=>
  intro d i
  have:∀k∈ks,ofT V k=2:=by
   obtain⟨k,m,_⟩:=Qu d;cases m<;>first|omega|assumption
  exact⟨(i1 (λk o=>⟨Ql d o,this k o⟩) i.tick).1,Jf,λ_ _ _ _=>.inl rfl⟩
 |cut x a ks s s1 v h ht l ho i1=>
  intro d i;exact⟨(i1 (Ql d (by simp)) i.tick).1,Jf,λ_ _ _ _=>.inl rfl⟩
 |atNo x a s s1 v h ht l ho hb i1=>
  intro d i;exact⟨(i1 (Ql d (by simp)) i.tick).1.stop (.inr ⟨by omega,by omega,rfl⟩),Jf,λ_ _ _ _=>.inl rfl⟩
 |at_ x a s s1 v h ht l ho hb i1=>
  intro d i;obtain⟨j,q⟩:=i1 (Ql d (by simp)) i.tick;obtain⟨k,m,o⟩:=Qu d
  have:ofT V (.node x [a])=0/\∃t,V[x.n.toNat]? =some t:=by
   cases m<;>first|omega|skip
   exact⟨o,_,by assumption⟩
  obtain⟨e0,t,p⟩:=this;obtain⟨l1,l2⟩:=j.arr_len p;refine⟨j,?_,λ_ t' e l=>by injection e with e;subst e;omega⟩;have ab:v.toNat<(s1.arr x.n).length:=by omega
  rw[Lb ab,LL];exact l2 _ (List.getElem_mem ab)
 |neg x a s s1 v h ht l ho i1=>
  intro d i;obtain⟨j,q⟩:=i1 (Ql d (by simp)) i.tick;refine⟨j,AcH _,λ_ t' e l=>?_⟩;injection e with e;subst e;obtain⟨k,m,o⟩:=Qu d;cases m<;>omega
 |not x a s s1 v h ht l ho i1=>
  intro d i;obtain⟨j,q⟩:=i1 (Ql d (by simp)) i.tick
  have:ofT V a=1:=by
   obtain⟨k,m,o⟩:=Qu d;cases m<;>omega
  have:=q.2 ho _ rfl this;exact⟨j,Ahx (by omega),λ_ _ _ _=>by omega⟩
 |and0 x a b s s1 h ht l ho i1=>
  intro d i;exact⟨(i1 (Ql d (by simp)) i.tick).1,Jf,λ_ _ _ _=>.inl rfl⟩
 |and1 x a b s s1 s2 v u h ht l ho p h2 i1 i2=>
  intro d i;obtain⟨j,_⟩:=i1 (Ql d (by simp)) i.tick;obtain⟨w,y⟩:=i2 (Ql d (by simp)) j
  have:ofT V b=1:=by
   obtain⟨k,m,o⟩:=Qu d;cases m<;>omega
  exact⟨w,y.1,λz _ _ _=>y.2 z _ rfl this⟩
 |or1 x a b s s1 h ht l ho i1=>
  intro d i;exact⟨(i1 (Ql d (by simp)) i.tick).1,Ahx (.inr rfl),λ_ _ _ _=>.inr rfl⟩
 |or0 x a b s s1 s2 v u h ht l ho p h2 i1 i2=>
  intro d i;obtain⟨j,_⟩:=i1 (Ql d (by simp)) i.tick;obtain⟨w,y⟩:=i2 (Ql d (by simp)) j
  have:ofT V b=1:=by
   obtain⟨k,m,o⟩:=Qu d;cases m<;>omega
  exact⟨w,y.1,λz _ _ _=>y.2 z _ rfl this⟩
 |set x a s s1 v h ht l ho i1=>
  intro d i;obtain⟨j,q⟩:=i1 (Ql d (by simp)) i.tick
  have:0<=x.n/\∃t,V[x.n.toNat]? =some t/\(t=0\/t=1)/\ofT V a=t:=by
   obtain⟨k,m,o⟩:=Qu d;cases m<;>first|omega|skip
   exact⟨by assumption,_,by assumption,by assumption,by assumption⟩
  obtain⟨z,t,p,aa,o⟩:=this;exact⟨j.setv z p aa q.1 (λe=>q.2 ho _ rfl (by omega)),Jf,λ_ _ _ _=>.inl rfl⟩
 |ifs x a b c t s s1 s2 v u h ht l ho p h2 i1 i2=>
  intro d i;obtain⟨j,_⟩:=i1 (Ql d (by simp)) i.tick;obtain⟨w,y⟩:=i2 (Ql d (Lf p)) j;refine⟨w,y.1,λ_ t' e l=>?_⟩;injection e with e;subst e;obtain⟨k,m,o⟩:=Qu d;cases m<;>omega
 |while0 x a b s s1 v h ht l ho p i1=>
  intro d i;exact⟨(i1 (Ql d (by simp)) i.tick).1,Jf,λ_ _ _ _=>.inl rfl⟩
 |while1 x a b s s1 s2 s3 u r h ht l ho h2 h3 i1 i2 i3=>
  intro d i;obtain⟨j,_⟩:=i1 (Ql d (by simp)) i.tick;obtain⟨w,_⟩:=i2 (Ql d (by simp)) j;exact⟨(i3 d w).1,Jf,λ_ _ _ _=>.inl rfl⟩
 |ret x a s s1 v h ht l ho i1=>
  intro d i;obtain⟨j,q⟩:=i1 (Ql d (by simp)) i.tick;exact⟨j.stop (.inl ⟨rfl,q.1⟩),Jf,λ_ _ _ _=>.inl rfl⟩
 |cut2 x a b s s1 s2 v u h ht l ho h2 ho2 i1 i2=>
  intro d i;obtain⟨j,_⟩:=i1 (Ql d (by simp)) i.tick;exact⟨(i2 (Ql d (by simp)) j).1,Jf,λ_ _ _ _=>.inl rfl⟩
 |putNo x a b s s1 s2 v u h ht l ho h2 ho2 hb i1 i2=>
  intro d i;obtain⟨j,_⟩:=i1 (Ql d (by simp)) i.tick;exact⟨(i2 (Ql d (by simp)) j).1.stop (.inr ⟨by omega,by omega,rfl⟩),Jf,λ_ _ _ _=>.inl rfl⟩
 |put x a b s s1 s2 v u h ht l ho h2 ho2 hb i1 i2=>
  intro d i;obtain⟨j,q⟩:=i1 (Ql d (by simp)) i.tick;obtain⟨w,y⟩:=i2 (Ql d (by simp)) j
  have:0<=x.n/\∃t,V[x.n.toNat]? =some t/\QC t≠0:=by
   obtain⟨k,m,o⟩:=Qu d;cases m<;>first|omega|skip
   exact⟨by assumption,_,by assumption,by assumption⟩
  obtain⟨z,t,p,ac⟩:=this;exact⟨w.seta z p ac y.1 q.1 hb,Jf,λ_ _ _ _=>.inl rfl⟩
 |pairNo x a b s s1 s2 v u h ht l ho h2 ho2 hp i1 i2=>
  intro d i;obtain⟨j,_⟩:=i1 (Ql d (by simp)) i.tick;exact⟨(i2 (Ql d (by simp)) j).1.stop (.inr ⟨by omega,by omega,rfl⟩),Jf,λ_ _ _ _=>.inl rfl⟩
 |pair x a b s s1 s2 v u c h ht l ho h2 ho2 hp i1 i2=>
  intro d i;obtain⟨j,q⟩:=i1 (Ql d (by simp)) i.tick;obtain⟨w,y⟩:=i2 (Ql d (by simp)) j;have:=AiI q.1 hp;refine⟨w,this.1,λ_ t' e l=>?_⟩;injection e with e;subst e;obtain⟨k,m,o⟩:=Qu d;refine this.2 ?_ ht.2;cases m<;>omega
theorem AbP (V:List Int):∀(n:Nat) (s:Ms),s.fuel<n->OkS V s->(∀t,okO V t->∃v s',Big (.one t) s v s')
 |0,_,h,_=>by omega
 |n+1,s,hn,hs=>by
  have all:∀(ts:List Tr) (s:Ms),s.fuel<n->OkS V s->(∀t∈ts,okO V t/\ofT V t=2)->∃v s',Big (.all ts) s v s':=by
   intro ts
   induction ts with
   |nil=>intro s _ _ _;exact⟨_,_,.nil s⟩
   |cons t ts ih=>
    intro s hf hs hk;obtain⟨v,d,e⟩:=AbP V n s hf hs t (hk t (by simp)).1;obtain⟨u,l,m⟩:=ih d (N0 e.ext.fuel hf) (e.inv (g:=.one t) (hk t (by simp)).1 hs).1 (λk aa=>hk k (by simp[aa]));exact⟨_,_,.cons t ts s d l v u e m⟩
  intro t ht
  cases ho:s.out with
  |some o=>exact⟨_,_,.over t s (by rw[ho];rfl)⟩
  |none=>
  by_cases h0:s.fuel=0
  ·exact⟨_,_,.empty t s ho h0⟩
  have i:s.go:=⟨ho,h0⟩
  have j:s.tick.fuel<n:=by have:=QK i;omega
  cases t with
  |node x ks=>
  obtain⟨k,sh,_⟩:=Qu ht
  have one:∀(a:Tr) (s0:Ms),a∈ks->s0.fuel<n->OkS V s0->∃v d,Big (.one a) s0 v d/\OkS V d/\okV V (.one a) v d/\d.fuel<n:=λa s0 w hf ac=>by
   obtain⟨v,d,e⟩:=AbP V n s0 hf ac a (Ql ht w);obtain⟨a1,y⟩:=e.inv (g:=.one a) (Ql ht w) ac;exact⟨v,d,e,a1,y,N0 e.ext.fuel hf⟩
  cases sh with
  |int h=>exact⟨_,_,.lit x s i (.inl h)⟩
  |bool h _=>exact⟨_,_,.lit x s i (.inr h)⟩
  |var _ h _ _ _=>exact⟨_,_,.var x s i h⟩
  |skip h=>exact⟨_,_,.skip x s i h⟩
  |block _ h hk=>
   obtain⟨v,d,e⟩:=all ks s.tick j hs.tick (λk aa=>⟨Ql ht aa,hk k aa⟩);exact⟨_,_,.block x ks s d v i h e⟩
  |at_ a h _ t z hz w=>
   obtain⟨v,d,e,q,y,p⟩:=one a s.tick (by simp) j hs.tick;cases ho1:d.out with
   |some o=>exact⟨_,_,.cut x a [] s d v i (by unfold XT;omega) e (by rw[ho1];rfl)⟩
   |none=>
    by_cases hb:v<0\/((d.arr x.n).length:Int)<=v
    ·exact⟨_,_,.atNo x a s d v i h e ho1 hb⟩
    ·exact⟨_,_,.at_ x a s d v i h e ho1 hb⟩
  |neg a h w=>
   obtain⟨v,d,e,q,y,p⟩:=one a s.tick (by simp) j hs.tick;cases ho1:d.out with
   |some o=>exact⟨_,_,.cut x a [] s d v i (by unfold XT;omega) e (by rw[ho1];rfl)⟩
   |none=>exact⟨_,_,.neg x a s d v i h e ho1⟩
  |not a h w=>
   obtain⟨v,d,e,q,y,p⟩:=one a s.tick (by simp) j hs.tick;cases ho1:d.out with
   |some o=>exact⟨_,_,.cut x a [] s d v i (by unfold XT;omega) e (by rw[ho1];rfl)⟩
   |none=>exact⟨_,_,.not x a s d v i h e ho1⟩
  |set a h hn' t z h01 w=>
   obtain⟨v,d,e,q,y,p⟩:=one a s.tick (by simp) j hs.tick;cases ho1:d.out with
   |some o=>exact⟨_,_,.cut x a [] s d v i (by unfold XT;omega) e (by rw[ho1];rfl)⟩
   |none=>exact⟨_,_,.set x a s d v i h e ho1⟩
  |ret a h w=>
   obtain⟨v,d,e,q,y,p⟩:=one a s.tick (by simp) j hs.tick;cases ho1:d.out with
   |some o=>exact⟨_,_,.cut x a [] s d v i (by unfold XT;omega) e (by rw[ho1];rfl)⟩
   |none=>exact⟨_,_,.ret x a s d v i h e ho1⟩
  |pair a b _ h hk w hb=>
   obtain⟨v,d,e,q,y,p⟩:=one a s.tick (by simp) j hs.tick;cases ho1:d.out with
   |some o=>exact⟨_,_,.cut x a [b] s d v i (by unfold XT;omega) e (by rw[ho1];rfl)⟩
   |none=>
    obtain⟨u,l,m,o2,b2,f2⟩:=one b d (by simp) p q;cases ho2:l.out with
    |some o=>exact⟨_,_,.cut2 x a b s d l v u i (by unfold wide XT;omega) e ho1 m (by rw[ho2];rfl)⟩
    |none=>
     cases hp:Zn x.tag v u with
     |none=>exact⟨_,_,.pairNo x a b s d l v u i h e ho1 m ho2 hp⟩
     |some c=>exact⟨_,_,.pair x a b s d l v u c i h e ho1 m ho2 hp⟩
  |put a b h hn' t z hz w hb=>
   obtain⟨v,d,e,q,y,p⟩:=one a s.tick (by simp) j hs.tick;cases ho1:d.out with
   |some o=>exact⟨_,_,.cut x a [b] s d v i (by unfold XT;omega) e (by rw[ho1];rfl)⟩
   |none=>
    obtain⟨u,l,m,o2,b2,f2⟩:=one b d (by simp) p q;cases ho2:l.out with
    |some o=>exact⟨_,_,.cut2 x a b s d l v u i (by unfold wide XT;omega) e ho1 m (by rw[ho2];rfl)⟩
    |none=>
     by_cases ab:v<0\/((l.arr x.n).length:Int)<=v
     ·exact⟨_,_,.putNo x a b s d l v u i h e ho1 m ho2 ab⟩
     ·exact⟨_,_,.put x a b s d l v u i h e ho1 m ho2 ab⟩
  |logic a b h w hb=>
   obtain⟨v,d,e,q,y,p⟩:=one a s.tick (by simp) j hs.tick;cases ho1:d.out with
   |some o=>exact⟨_,_,.cut x a [b] s d v i (by unfold XT;omega) e (by rw[ho1];rfl)⟩
   |none=>
    obtain⟨u,l,m,_⟩:=one b d (by simp) p q;rcases h with h|h
    ·by_cases z:v=0
     ·subst z;exact⟨_,_,.and0 x a b s d i h e ho1⟩
     ·exact⟨_,_,.and1 x a b s d l v u i h e ho1 z m⟩
    ·by_cases z:v=1
     ·subst z;exact⟨_,_,.or1 x a b s d i h e ho1⟩
     ·exact⟨_,_,.or0 x a b s d l v u i h e ho1 z m⟩
  |ifs a b c h w hb hc tb tc=>
   obtain⟨v,d,e,q,y,p⟩:=one a s.tick (by simp) j hs.tick;cases ho1:d.out with
   |some o=>exact⟨_,_,.cut x a [b,c] s d v i (by unfold XT;omega) e (by rw[ho1];rfl)⟩
   |none=>
    rcases y.2 ho1 _ rfl w with rfl|rfl
    ·obtain⟨u,l,m,_⟩:=one c d (by simp) p q;exact⟨_,_,.ifs x a b c c s d l 0 u i h e ho1 rfl m⟩
    ·obtain⟨u,l,m,_⟩:=one b d (by simp) p q;exact⟨_,_,.ifs x a b c b s d l 1 u i h e ho1 rfl m⟩
  |«while» a b h w hb tb=>
   obtain⟨v,d,e,q,y,p⟩:=one a s.tick (by simp) j hs.tick;cases ho1:d.out with
   |some o=>exact⟨_,_,.cut x a [b] s d v i (by unfold XT;omega) e (by rw[ho1];rfl)⟩
   |none=>
    by_cases z:v=1
    ·subst z;obtain⟨u,l,m,o2,_,f2⟩:=one b d (by simp) p q;obtain⟨r,s3,h3⟩:=AbP V n l f2 o2 _ ht;exact⟨_,_,.while1 x a b s d l s3 u r i h e ho1 m h3⟩
    ·exact⟨_,_,.while0 x a b s d v i h e ho1 z⟩
structure Fr where
 at_:Nat
 t:Tr
 kid:Nat
 vals:List Int
structure Mm where
 s:Ms
 stack:List Fr
def Z2 (p:Nat)(t:Tr)(m:Mm):Mm:=if m.s.fuel=0 then⟨m.s.stop 4 0,m.stack⟩else⟨m.s.tick,⟨p,t,0,[]⟩::m.stack⟩
def Fr.told (f:Fr)(v:Int):Fr:={ f with vals:=f.vals++[v] }
def Fr.more (f:Fr):Fr:={ f with kid:=f.kid+1 }
def told (k v:Int):List Fr->List Fr
 |[]=>[]
 |f::r=>if k=2 then f::r else f.told v::r
def UU (tag v:Int):Prop:=tag=18/\v=0\/tag=19/\v=1\/tag=24/\v=0
def asks (tag:Int):Prop:=tag=18\/tag=19\/tag=24
structure NextK (f:Fr)(i:Nat):Prop where
 lt:f.kid<f.t.kids.length
 how:(f.t.root.tag=23/\f.kid=1/\∃v vs,f.vals=v::vs/\(v=0\/v=1)/\(i:Int)=2-v)\/(i=f.kid/\¬(f.t.root.tag=23/\1<=f.kid)/\(f.kid=1->asks f.t.root.tag->∃v vs,f.vals=v::vs/\¬UU f.t.root.tag v))
structure NextNo (f:Fr):Prop where
 how:(f.kid=1/\∃v vs,f.vals=v::vs/\UU f.t.root.tag v)\/(¬(f.kid=1/\asks f.t.root.tag)/\((f.t.root.tag=23/\1<f.kid)\/(f.t.root.tag≠23/\f.t.kids.length<=f.kid)))
inductive Fin:Fr->Ms->List Fr->Mm->Prop
 |lit (f:Fr) (s:Ms) (g:Fr) (r:List Fr) (h:f.t.root.tag=1\/f.t.root.tag=2):Fin f s (g::r) ⟨s,g.told f.t.root.n::r⟩
 |var (f:Fr) (s:Ms) (g:Fr) (r:List Fr) (v:Int) (h:f.t.root.tag=3) (hn:0<=f.t.root.n) (hv:s.vals[f.t.root.n.toNat]? =some v):Fin f s (g::r) ⟨s,g.told v::r⟩
 |atNo (f:Fr) (s:Ms) (r:List Fr) (i:Int) (vs:List Int) (h:f.t.root.tag=4) (hn:0<=f.t.root.n) (hl:f.t.root.n.toNat<s.arrs.length) (hv:f.vals=i::vs) (hb:i<0\/((s.arr f.t.root.n).length:Int)<=i):Fin f s r ⟨s.stop 2 0,r⟩
 |at_ (f:Fr) (s:Ms) (g:Fr) (r:List Fr) (i v:Int) (vs:List Int) (h:f.t.root.tag=4) (hn:0<=f.t.root.n) (hl:f.t.root.n.toNat<s.arrs.length) (hv:f.vals=i::vs) (hb:¬(i<0\/((s.arr f.t.root.n).length:Int)<=i)) (hx:(s.arr f.t.root.n)[i.toNat]? =some v):Fin f s (g::r) ⟨s,g.told v::r⟩
 |neg (f:Fr) (s:Ms) (g:Fr) (r:List Fr) (v:Int) (vs:List Int) (h:f.t.root.tag=5) (hv:f.vals=v::vs):Fin f s (g::r) ⟨s,g.told (wrap64 (-v))::r⟩
 |not (f:Fr) (s:Ms) (g:Fr) (r:List Fr) (v:Int) (vs:List Int) (h:f.t.root.tag=6) (hv:f.vals=v::vs) (h01:v=0\/v=1):Fin f s (g::r) ⟨s,g.told (1-v)::r⟩
 |logic (f:Fr) (s:Ms) (g:Fr) (r:List Fr) (v:Int) (vs:List Int) (h:f.t.root.tag=18\/f.t.root.tag=19) (hv:f.vals=vs++[v]):Fin f s (g::r) ⟨s,g.told v::r⟩
 |set (f:Fr) (s:Ms) (r:List Fr) (v:Int) (vs:List Int) (h:f.t.root.tag=21) (hn:0<=f.t.root.n) (hl:f.t.root.n.toNat<s.vals.length) (hv:f.vals=v::vs):Fin f s r ⟨s.setv f.t.root.n v,r⟩
 |putNo (f:Fr) (s:Ms) (r:List Fr) (i v:Int) (vs:List Int) (h:f.t.root.tag=22) (hn:0<=f.t.root.n) (hl:f.t.root.n.toNat<s.arrs.length) (hv:f.vals=i::v::vs) (hb:i<0\/((s.arr f.t.root.n).length:Int)<=i):Fin f s r ⟨s.stop 2 0,r⟩
 |put (f:Fr) (s:Ms) (r:List Fr) (i v:Int) (vs:List Int) (h:f.t.root.tag=22) (hn:0<=f.t.root.n) (hl:f.t.root.n.toNat<s.arrs.length) (hv:f.vals=i::v::vs) (hb:¬(i<0\/((s.arr f.t.root.n).length:Int)<=i)):Fin f s r ⟨s.seta f.t.root.n i v,r⟩
 |while1 (f:Fr) (s:Ms) (r:List Fr) (vs:List Int) (h:f.t.root.tag=24) (hv:f.vals=1::vs):Fin f s r (Z2 f.at_ f.t ⟨s,r⟩)
 |while0 (f:Fr) (s:Ms) (r:List Fr) (v:Int) (vs:List Int) (h:f.t.root.tag=24) (hv:f.vals=v::vs) (h1:v≠1):Fin f s r ⟨s,r⟩
 |ret (f:Fr) (s:Ms) (r:List Fr) (v:Int) (vs:List Int) (h:f.t.root.tag=25) (hv:f.vals=v::vs):Fin f s r ⟨s.stop 0 v,r⟩
 |nothing (f:Fr) (s:Ms) (r:List Fr) (h:f.t.root.tag=20\/f.t.root.tag=23\/f.t.root.tag=26):Fin f s r ⟨s,r⟩
 |pairNo (f:Fr) (s:Ms) (r:List Fr) (a b:Int) (vs:List Int) (h:7<=f.t.root.tag/\f.t.root.tag<=17) (hv:f.vals=a::b::vs) (hp:Zn f.t.root.tag a b=none):Fin f s r ⟨s.stop 1 0,r⟩
 |pair (f:Fr) (s:Ms) (g:Fr) (r:List Fr) (a b c:Int) (vs:List Int) (h:7<=f.t.root.tag/\f.t.root.tag<=17) (hv:f.vals=a::b::vs) (hp:Zn f.t.root.tag a b=some c):Fin f s (g::r) ⟨s,g.told c::r⟩
inductive Step:Mm->Mm->Prop
 |done (s:Ms):Step ⟨s,[]⟩ ⟨s.stop 3 0,[]⟩
 |kid (s:Ms) (f:Fr) (r:List Fr) (i q:Nat) (k:Tr) (hi:NextK f i) (hq:(Q1 (f.at_+1) f.t.kids)[i]? =some q) (hk:f.t.kids[i]? =some k):Step ⟨s,f::r⟩ (Z2 q k ⟨s,f.more::r⟩)
 |fin (s:Ms) (f:Fr) (r:List Fr) (m:Mm) (hn:NextNo f) (hf:Fin f s r m):Step ⟨s,f::r⟩ m
inductive Reach:Mm->Mm->Prop
 |refl (m:Mm):Reach m m
 |step (m m' m'':Mm) (ho:m.s.out=none) (h:Step m m') (r:Reach m' m''):Reach m m''
theorem Reach.trans{a b c:Mm}(h:Reach a b)(k:Reach b c):Reach a c:=by
 induction h with
 |refl m=>exact k
 |step m m' m'' ho h _ ih=>exact .step m m' _ ho h (ih k)
theorem Reach.one{a b:Mm}(ho:a.s.out=none)(h:Step a b):Reach a b:=.step _ _ _ ho h (.refl _)
theorem Uw{g:Gl}{s s':Ms}{v:Int}(h:Big g s v s'):s.out.isSome=true->s'=s:=by
 induction h with
 |nil s=>exact λ_=>rfl
 |cons t ts s s1 s2 v u h1 h2 i1 i2=>exact λh=>by have e:=i1 h;subst e;exact i2 h
 |over t s h=>exact λ_=>rfl
 |empty t s h h0=>exact λe=>by rw[h]at e;cases e
 |_=>
  intro e;exact absurd e (QW (by assumption)).1
def Sim (V:List Int):Gl->Ms->Int->Ms->Prop
 | .one t,s,v,s'=>okO V t->OkS V s->s.out=none->∀(p:Nat) (r:List Fr),(ofT V t≠2->r≠[])->∃m,Reach (Z2 p t ⟨s,r⟩) m/\m.s=s'/\(s'.out=none->m.stack=told (ofT V t) v r)
 | .all ts,s,_,s'=>(∀t∈ts,okO V t/\ofT V t=2)->OkS V s->s.out=none->∀(f:Fr) (r:List Fr),f.t.root.tag=20->f.t.kids.drop f.kid=ts->f.kid<=f.t.kids.length->∃m,Reach ⟨s,f::r⟩ m/\m.s=s'/\(s'.out=none->m.stack={ f with kid:=f.t.kids.length }::r)
theorem ZZ{p:Nat}{t:Tr}{s:Ms}{r:List Fr}(h:s.go):Z2 p t ⟨s,r⟩=⟨s.tick,⟨p,t,0,[]⟩::r⟩:=by unfold Z2;rw[if_neg h.2]
theorem Acq{p:Nat}{ts:List Tr}{i:Nat}{k:Tr}(h:ts[i]? =some k):∃q,(Q1 p ts)[i]? =some q:=
 ⟨_,Lb (by rw[Ju];exact(La.1 h).1)⟩
theorem Kl{V:List Int}{k:Tr}{s s1:Ms}{v:Int}(ih:Sim V (.one k) s v s1)(ok:okO V k)(hs:OkS V s)(ho:s.out=none)(f:Fr)(r:List Fr)(i:Nat)(hi:NextK f i)(hk:f.t.kids[i]? =some k):
 ∃m,Reach ⟨s,f::r⟩ m/\m.s=s1/\(s1.out=none->m.stack=told (ofT V k) v (f.more::r)):=by
 obtain⟨q,g⟩:=Acq (p:=f.at_+1) hk;obtain⟨m,c,d,e⟩:=ih ok hs ho q (f.more::r) (λ_=>by simp);exact⟨m,.step _ _ _ ho (.kid s f r i q k hi g hk) c,d,e⟩
theorem YL{v:Int}{f:Fr}{r:List Fr}{k:Int}(h:k=2):told k v (f::r)=f::r:=if_pos h
theorem Zj{v:Int}{f:Fr}{r:List Fr}{k:Int}(h:k≠2):told k v (f::r)=f.told v::r:=if_neg h
theorem Xc (s:Ms):s.out.isSome=true\/s.out=none:=by cases s.out<;>simp
theorem AbI{s:Ms}(h:s.go):s.tick.out=none:=h.1
theorem Z6{m:Mm}{s:Ms}{st:List Fr}(h1:m.s=s)(h2:m.stack=st):m=⟨s,st⟩:=by cases m;subst h1 h2;rfl
theorem Zi{V:List Int}{x:Nd}{a:Tr}{ks:List Tr}{s s1:Ms}{v:Int}(ih:Sim V (.one a) s.tick v s1)(hg:okO V (.node x (a::ks)))(hs:OkS V s)(h:s.go)(p:Nat)(r:List Fr):
 ∃m,Reach (Z2 p (.node x (a::ks)) ⟨s,r⟩) m/\m.s=s1/\(s1.out=none->m.stack=told (ofT V a) v (⟨p,.node x (a::ks),1,[]⟩::r)):=by
 rw[ZZ h];exact Kl ih (Ql hg (by simp)) hs.tick (AbI h) ⟨p,.node x (a::ks),0,[]⟩ r 0 ⟨by simp[Tr.kids],.inr ⟨rfl,by simp,λe=>by simp at e⟩⟩ rfl
theorem Zw{V:List Int}{t:Tr}{s s':Ms}{v:Int}{p:Nat}{r:List Fr}{m0 m:Mm}{f:Fr}(h0:Reach (Z2 p t ⟨s,r⟩) m0)(h1:m0=⟨m0.s,f::r⟩)(ho:m0.s.out=none)(hn:NextNo f)(hf:Fin f m0.s r m)(h2:m.s=s')(h3:s'.out=none->m.stack=told (ofT V t) v r):
 ∃m,Reach (Z2 p t ⟨s,r⟩) m/\m.s=s'/\(s'.out=none->m.stack=told (ofT V t) v r):=
 ⟨m,h0.trans (.one ho (by rw[h1];exact .fin _ _ _ _ hn (by simpa using hf))),h2,h3⟩
theorem KI{α:Type}{r:List α}(h:r≠[]):∃g r',r=g::r':=by
 match r,h with
 |g::r',_=>exact⟨g,r',rfl⟩
theorem sim{V:List Int}{g:Gl}{s s':Ms}{v:Int}(h:Big g s v s'):Sim V g s v s':=by
 induction h with
 |nil s=>
  intro _ q o f r z hd hl;refine⟨_,.refl _,rfl,λ_=>?_⟩;have ad:=congrArg List.length hd;simp only[LO,Lo]at ad;obtain⟨a,t,k,vs⟩:=f;simp only at ad hl|-;rw[show k=t.kids.length by omega]
 |cons t ts s s1 s2 v u h1 h2 i1 i2=>
  intro hk q o f r z hd hl;have ad:=congrArg List.length hd;simp only[LO,Lc]at ad
  have af:f.t.kids[f.kid]? =some t:=by
   have:=congrArg (λl=>l[0]?) hd;simpa using this
  have ok:=hk t (by simp);obtain⟨m,y,w,st⟩:=Kl i1 ok.1 q o f r f.kid ⟨by omega,.inr ⟨rfl,by omega,λ_ h=>by unfold asks at h;omega⟩⟩ af;have o1:=(h1.inv (g:=.one t) ok.1 q).1;rcases Xc s1 with ab|ab
  ·
    have e2:s2=s1:=Uw h2 ab;subst e2;exact⟨m,y,w,λe=>by rw[e]at ab;cases ab⟩
  ·
   have em:=Z6 w ((st ab).trans (YL ok.2))
   obtain⟨m2,r2,e2,aa⟩:=i2 (λk ae=>hk k (by simp[ae])) o1 ab f.more r z (by
    show f.t.kids.drop (f.kid+1)=ts
    rw[<-Nj,hd];rfl) (by show f.kid+1<=f.t.kids.length;omega)
   rw[em]at y;exact⟨m2,y.trans r2,e2,aa⟩
 |over t s h=>exact λ_ _ o=>by rw[o]at h;cases h
 |empty t s h h0=>
  intro _ _ o p r _;refine⟨_,.refl _,by unfold Z2;rw[if_pos h0],λe=>by cases e⟩
 |lit x s h z=>
  intro d q o p r hr;obtain⟨k,sh,hk⟩:=Qu d;have ac:ofT V (.node x [])≠2:=by cases sh<;>omega
  obtain⟨g,r',rfl⟩:=KI (hr ac);refine Zw (f:=⟨p,.node x [],0,[]⟩) (.refl _) (by rw[ZZ h]) ((by rw[ZZ h];exact h.1)) ⟨.inr ⟨by simp,.inr ⟨by simp[Tr.root];omega,by simp[Tr.kids]⟩⟩⟩ (.lit _ _ g r' z) ?_ ?_
  ·rw[ZZ h]
  ·intro _;rw[Zj ac];rfl
 |var x s h z=>
  intro d q o p r hr;obtain⟨k,sh,hk⟩:=Qu d;have ac:ofT V (.node x [])≠2:=by cases sh<;>omega
  obtain⟨g,r',rfl⟩:=KI (hr ac)
  have hn:0<=x.n/\x.n.toNat<s.vals.length:=by
   rw[q.vlen];cases sh<;>first|omega|skip
   rename_i hn hv _;exact⟨hn,(La.1 hv).1⟩
  have hv:=Lb hn.2;rw[hv,LL];refine Zw (f:=⟨p,.node x [],0,[]⟩) (.refl _) (by rw[ZZ h]) ((by rw[ZZ h];exact h.1)) ⟨.inr ⟨by simp,.inr ⟨by simp[Tr.root];omega,by simp[Tr.kids]⟩⟩⟩ (.var _ _ g r' _ z hn.1 (by rw[ZZ h];exact hv)) ?_ ?_
  ·rw[ZZ h]
  ·intro _;rw[Zj ac]
 |skip x s h z=>
  intro d q o p r hr;obtain⟨k,sh,hk⟩:=Qu d;have ac:ofT V (.node x [])=2:=by cases sh<;>omega
  refine Zw (f:=⟨p,.node x [],0,[]⟩) (.refl _) (by rw[ZZ h]) ((by rw[ZZ h];exact h.1)) ⟨.inr ⟨by simp,.inr ⟨by simp[Tr.root];omega,by simp[Tr.kids]⟩⟩⟩ (.nothing _ _ _ (.inr (.inr z))) ?_ ?_
  ·rw[ZZ h]
  ·intro _;cases r with
   |nil=>rfl
   |cons g r'=>rw[YL ac]
 |block x ks s s1 u h z h1 i1=>
  intro d q o p r hr;obtain⟨k,sh,hk⟩:=Qu d;have ac:ofT V (.node x ks)=2/\∀k∈ks,ofT V k=2:=by cases sh<;>first|omega|exact⟨hk,by assumption⟩
  obtain⟨m,y,w,st⟩:=i1 (λk ae=>⟨Ql d ae,ac.2 k ae⟩) q.tick (AbI h) ⟨p,.node x ks,0,[]⟩ r z rfl (Nat.zero_le _);rw[<-ZZ (p:=p) (t:=.node x ks) (r:=r) h]at y;rcases Xc s1 with ab|ab
  ·exact⟨m,y,w,λe=>by rw[e]at ab;cases ab⟩
  ·
   refine Zw y (Z6 rfl (st ab)) (by rw[w];exact ab) ⟨.inr ⟨λe=>by unfold asks at e;simp only[Tr.root]at e;omega,.inr ⟨by simp only[Tr.root];omega,Nat.le_refl _⟩⟩⟩ (.nothing _ _ _ (.inl z)) w ?_;intro _;cases r with
   |nil=>rfl
   |cons g r'=>rw[YL ac.1]
 |cut x a ks s s1 v h z h1 o i1=>
  intro d q _ p r hr;obtain⟨m,y,w,_⟩:=Zi i1 d q h p r;exact⟨m,y,w,λe=>by rw[e]at o;cases o⟩
 |atNo x a s s1 v h z h1 o hb i1=>
  intro d q _ p r hr;obtain⟨k,sh,hk⟩:=Qu d;have o1:=(h1.inv (g:=.one a) (Ql d (by simp)) q.tick).1;obtain⟨m,y,w,st⟩:=Zi i1 d q h p r
  have j:ofT V a≠2/\0<=x.n/\x.n.toNat<s1.arrs.length:=by
   rw[o1.alen];cases sh<;>first|omega|skip
   exact⟨by omega,by assumption,(La.1 (by assumption)).1⟩
  refine Zw y (Z6 rfl ((st o).trans (Zj j.1))) (by rw[w];exact o) ⟨.inr ⟨λe=>by unfold asks at e;simp only[Tr.root,Fr.told]at e;omega,.inr ⟨by simp only[Tr.root,Fr.told];omega,Nat.le_refl _⟩⟩⟩
   (.atNo _ _ _ v [] z j.2.1 (by rw[w];exact j.2.2) rfl (by rw[w];exact hb)) (by rw[w]) (λe=>by cases e)
 |at_ x a s s1 v h z h1 o hb i1=>
  intro d q _ p r hr;obtain⟨k,sh,hk⟩:=Qu d;have o1:=(h1.inv (g:=.one a) (Ql d (by simp)) q.tick).1;obtain⟨m,y,w,st⟩:=Zi i1 d q h p r
  have j:ofT V a≠2/\0<=x.n/\x.n.toNat<s1.arrs.length/\ofT V (.node x [a])≠2:=by
   rw[o1.alen];cases sh<;>first|omega|skip
   exact⟨by omega,by assumption,(La.1 (by assumption)).1,by omega⟩
  obtain⟨g,r',rfl⟩:=KI (hr j.2.2.2)
  have hx:(s1.arr x.n)[v.toNat]? =some (((s1.arr x.n)[v.toNat]?).getD 0):=by
   rw[Lb (show v.toNat<(s1.arr x.n).length by omega)];rfl
  refine Zw y (Z6 rfl ((st o).trans (Zj j.1))) (by rw[w];exact o) ⟨.inr ⟨λe=>by unfold asks at e;simp only[Tr.root,Fr.told]at e;omega,.inr ⟨by simp only[Tr.root,Fr.told];omega,Nat.le_refl _⟩⟩⟩
   (.at_ _ _ g r' v _ [] z j.2.1 (by rw[w];exact j.2.2.1) rfl (by rw[w];exact hb) (by rw[w];exact hx)) w (λ_=>by rw[Zj j.2.2.2])
 |neg x a s s1 v h z h1 o i1=>
  intro d q _ p r hr;obtain⟨k,sh,hk⟩:=Qu d;obtain⟨m,y,w,st⟩:=Zi i1 d q h p r;have j:ofT V a≠2/\ofT V (.node x [a])≠2:=by cases sh<;>omega
  obtain⟨g,r',rfl⟩:=KI (hr j.2)
  exact Zw y (Z6 rfl ((st o).trans (Zj j.1))) (by rw[w];exact o) ⟨.inr ⟨λe=>by unfold asks at e;simp only[Tr.root,Fr.told]at e;omega,.inr ⟨by simp only[Tr.root,Fr.told];omega,Nat.le_refl _⟩⟩⟩
   (.neg _ _ g r' v [] z rfl) w (λ_=>by rw[Zj j.2])
 |not x a s s1 v h z h1 o i1=>
  intro d q _ p r hr;obtain⟨k,sh,hk⟩:=Qu d;obtain⟨m,y,w,st⟩:=Zi i1 d q h p r;have j:ofT V a=1/\ofT V (.node x [a])≠2:=by cases sh<;>omega
  have b1:=(h1.inv (g:=.one a) (Ql d (by simp)) q.tick).2.2 o _ rfl j.1;obtain⟨g,r',rfl⟩:=KI (hr j.2)
  exact Zw y (Z6 rfl ((st o).trans (Zj (by omega)))) (by rw[w];exact o) ⟨.inr ⟨λe=>by unfold asks at e;simp only[Tr.root,Fr.told]at e;omega,.inr ⟨by simp only[Tr.root,Fr.told];omega,Nat.le_refl _⟩⟩⟩
   (.not _ _ g r' v [] z rfl b1) w (λ_=>by rw[Zj j.2])
 |and0 x a b s s1 h z h1 o i1=>
  intro d q _ p r hr;obtain⟨k,sh,hk⟩:=Qu d;obtain⟨m,y,w,st⟩:=Zi i1 d q h p r;have j:ofT V a≠2/\ofT V (.node x [a,b])≠2:=by cases sh<;>omega
  obtain⟨g,r',rfl⟩:=KI (hr j.2)
  exact Zw y (Z6 rfl ((st o).trans (Zj j.1))) (by rw[w];exact o) ⟨.inl ⟨rfl,0,[],rfl,.inl ⟨z,rfl⟩⟩⟩
   (.logic _ _ g r' 0 [] (.inl z) rfl) w (λ_=>by rw[Zj j.2])
 |and1 x a b s s1 s2 v u h z h1 o hv h2 i1 i2=>
  intro d q _ p r hr;obtain⟨k,sh,hk⟩:=Qu d;obtain⟨m,y,w,st⟩:=Zi i1 d q h p r;have j:ofT V a≠2/\ofT V b≠2/\ofT V (.node x [a,b])≠2:=by cases sh<;>omega
  have o1:=(h1.inv (g:=.one a) (Ql d (by simp)) q.tick).1;obtain⟨g,r',rfl⟩:=KI (hr j.2.2);rw[Z6 w ((st o).trans (Zj j.1))]at y;obtain⟨m2,r2,e2,aa⟩:=Kl i2 (Ql d (by simp)) o1 o (Fr.told ⟨p,.node x [a,b],1,[]⟩ v) (g::r') 1 ⟨by simp[Tr.kids,Fr.told],.inr ⟨rfl,by simp only[Tr.root,Fr.told];omega,λ_ _=>⟨v,[],rfl,by unfold UU;simp only[Tr.root,Fr.told];omega⟩⟩⟩ rfl;rcases Xc s2 with i|i
  ·exact⟨m2,y.trans r2,e2,λe=>by rw[e]at i;cases i⟩
  ·
   exact Zw (y.trans r2) (Z6 rfl ((aa i).trans (Zj j.2.1))) (by rw[e2];exact i) ⟨.inr ⟨λe=>by simp[Fr.told,Fr.more]at e,.inr ⟨by simp only[Tr.root,Fr.told,Fr.more];omega,Nat.le_refl _⟩⟩⟩
    (.logic _ _ g r' u [v] (.inl z) rfl) e2 (λ_=>by rw[Zj j.2.2])
 |or1 x a b s s1 h z h1 o i1=>
  intro d q _ p r hr;obtain⟨k,sh,hk⟩:=Qu d;obtain⟨m,y,w,st⟩:=Zi i1 d q h p r;have j:ofT V a≠2/\ofT V (.node x [a,b])≠2:=by cases sh<;>omega
  obtain⟨g,r',rfl⟩:=KI (hr j.2)
  exact Zw y (Z6 rfl ((st o).trans (Zj j.1))) (by rw[w];exact o) ⟨.inl ⟨rfl,1,[],rfl,.inr (.inl ⟨z,rfl⟩)⟩⟩
   (.logic _ _ g r' 1 [] (.inr z) rfl) w (λ_=>by rw[Zj j.2])
 |or0 x a b s s1 s2 v u h z h1 o hv h2 i1 i2=>
  intro d q _ p r hr;obtain⟨k,sh,hk⟩:=Qu d;obtain⟨m,y,w,st⟩:=Zi i1 d q h p r;have j:ofT V a≠2/\ofT V b≠2/\ofT V (.node x [a,b])≠2:=by cases sh<;>omega
  have o1:=(h1.inv (g:=.one a) (Ql d (by simp)) q.tick).1;obtain⟨g,r',rfl⟩:=KI (hr j.2.2);rw[Z6 w ((st o).trans (Zj j.1))]at y;obtain⟨m2,r2,e2,aa⟩:=Kl i2 (Ql d (by simp)) o1 o (Fr.told ⟨p,.node x [a,b],1,[]⟩ v) (g::r') 1 ⟨by simp[Tr.kids,Fr.told],.inr ⟨rfl,by simp only[Tr.root,Fr.told];omega,λ_ _=>⟨v,[],rfl,by unfold UU;simp only[Tr.root,Fr.told];omega⟩⟩⟩ rfl;rcases Xc s2 with i|i
  ·exact⟨m2,y.trans r2,e2,λe=>by rw[e]at i;cases i⟩
  ·
   exact Zw (y.trans r2) (Z6 rfl ((aa i).trans (Zj j.2.1))) (by rw[e2];exact i) ⟨.inr ⟨λe=>by simp[Fr.told,Fr.more]at e,.inr ⟨by simp only[Tr.root,Fr.told,Fr.more];omega,Nat.le_refl _⟩⟩⟩
    (.logic _ _ g r' u [v] (.inr z) rfl) e2 (λ_=>by rw[Zj j.2.2])
 |set x a s s1 v h z h1 o i1=>
  intro d q _ p r hr;obtain⟨k,sh,hk⟩:=Qu d;have o1:=(h1.inv (g:=.one a) (Ql d (by simp)) q.tick).1;obtain⟨m,y,w,st⟩:=Zi i1 d q h p r
  have j:ofT V a≠2/\0<=x.n/\x.n.toNat<s1.vals.length/\ofT V (.node x [a])=2:=by
   rw[o1.vlen];cases sh<;>first|omega|skip
   exact⟨by omega,by assumption,(La.1 (by assumption)).1,by omega⟩
  refine Zw y (Z6 rfl ((st o).trans (Zj j.1))) (by rw[w];exact o) ⟨.inr ⟨λe=>by unfold asks at e;simp only[Tr.root,Fr.told]at e;omega,.inr ⟨by simp only[Tr.root,Fr.told];omega,Nat.le_refl _⟩⟩⟩
   (.set _ _ _ v [] z j.2.1 (by rw[w];exact j.2.2.1) rfl) (by rw[w];rfl) ?_
  intro _;cases r with
  |nil=>rfl
  |cons g r'=>rw[YL j.2.2.2]
 |ifs x a b c t s s1 s2 v u h z h1 o hv h2 i1 i2=>
  intro d q _ p r hr;obtain⟨k,sh,hk⟩:=Qu d;obtain⟨m,y,w,st⟩:=Zi i1 d q h p r;have j:ofT V a=1/\ofT V b=2/\ofT V c=2/\ofT V (.node x [a,b,c])=2:=by cases sh<;>omega
  obtain⟨o1,b1⟩:=h1.inv (g:=.one a) (Ql d (by simp)) q.tick;have b1:=b1.2 o _ rfl j.1;rw[Z6 w ((st o).trans (Zj (by omega)))]at y
  have ag:ofT V t=2:=by
   rcases b1 with rfl|rfl
   ·have:c=t:=by simpa using hv
    rw[<-this];exact j.2.2.1
   ·have:b=t:=by simpa using hv
    rw[<-this];exact j.2.1
  obtain⟨m2,r2,e2,aa⟩:=Kl i2 (Ql d (Lf hv)) o1 o (Fr.told ⟨p,.node x [a,b,c],1,[]⟩ v) r (2-v).toNat ⟨by simp[Tr.kids,Fr.told],.inl ⟨z,rfl,v,[],rfl,b1,by omega⟩⟩ hv;rcases Xc s2 with i|i
  ·exact⟨m2,y.trans r2,e2,λe=>by rw[e]at i;cases i⟩
  ·
   refine Zw (y.trans r2) (Z6 rfl ((aa i).trans (YL ag))) (by rw[e2];exact i) ⟨.inr ⟨λe=>by simp[Fr.told,Fr.more]at e,.inl ⟨z,by simp[Fr.told,Fr.more]⟩⟩⟩
    (.nothing _ _ _ (.inr (.inl z))) e2 ?_
   intro _;cases r with
   |nil=>rfl
   |cons g r'=>rw[YL j.2.2.2]
 |while0 x a b s s1 v h z h1 o hv i1=>
  intro d q _ p r hr;obtain⟨k,sh,hk⟩:=Qu d;obtain⟨m,y,w,st⟩:=Zi i1 d q h p r;have j:ofT V a=1/\ofT V (.node x [a,b])=2:=by cases sh<;>omega
  obtain⟨o1,b1⟩:=h1.inv (g:=.one a) (Ql d (by simp)) q.tick;have b1:=b1.2 o _ rfl j.1
  refine Zw y (Z6 rfl ((st o).trans (Zj (by omega)))) (by rw[w];exact o) ⟨.inl ⟨rfl,v,[],rfl,.inr (.inr ⟨z,by omega⟩)⟩⟩
   (.while0 _ _ _ v [] z rfl hv) w ?_
  intro _;cases r with
  |nil=>rfl
  |cons g r'=>rw[YL j.2]
 |while1 x a b s s1 s2 s3 u r' h z h1 o h2 h3 i1 i2 i3=>
  intro d q _ p r hr;obtain⟨k,sh,hk⟩:=Qu d;obtain⟨m,y,w,st⟩:=Zi i1 d q h p r;have j:ofT V a=1/\ofT V b=2/\ofT V (.node x [a,b])=2:=by cases sh<;>omega
  obtain⟨o1,b1⟩:=h1.inv (g:=.one a) (Ql d (by simp)) q.tick;obtain⟨o2,_⟩:=h2.inv (g:=.one b) (Ql d (by simp)) o1;rw[Z6 w ((st o).trans (Zj (by omega)))]at y;obtain⟨m2,r2,e2,aa⟩:=Kl i2 (Ql d (by simp)) o1 o (Fr.told ⟨p,.node x [a,b],1,[]⟩ 1) r 1 ⟨by simp[Tr.kids,Fr.told],.inr ⟨rfl,by simp only[Tr.root,Fr.told];omega,λ_ _=>⟨1,[],rfl,by unfold UU;simp only[Tr.root,Fr.told];omega⟩⟩⟩ rfl;rcases Xc s2 with i|i
  ·
    have e3:s3=s2:=Uw h3 i;subst e3;exact⟨m2,y.trans r2,e2,λe=>by rw[e]at i;cases i⟩
  ·
   obtain⟨m3,r3,e3,ah⟩:=i3 d o2 i p r (λe=>absurd j.2.2 e);have em:=Z6 e2 ((aa i).trans (YL j.2.1));refine⟨m3,(y.trans r2).trans (.step _ _ _ (by rw[e2];exact i) (by rw[em];exact .fin _ _ _ _ ⟨.inr ⟨λe=>by simp[Fr.told,Fr.more]at e,.inr ⟨by simp only[Tr.root,Fr.told,Fr.more];omega,Nat.le_refl _⟩⟩⟩ (.while1 _ _ _ [] z rfl)) r3),e3,λe=>?_⟩;rw[ah e];cases r with
   |nil=>rfl
   |cons g r''=>rw[YL j.2.2,YL j.2.2]
 |ret x a s s1 v h z h1 o i1=>
  intro d q _ p r hr;obtain⟨k,sh,hk⟩:=Qu d;obtain⟨m,y,w,st⟩:=Zi i1 d q h p r;have j:ofT V a≠2:=by cases sh<;>omega
  exact Zw y (Z6 rfl ((st o).trans (Zj j))) (by rw[w];exact o) ⟨.inr ⟨λe=>by unfold asks at e;simp only[Tr.root,Fr.told]at e;omega,.inr ⟨by simp only[Tr.root,Fr.told];omega,Nat.le_refl _⟩⟩⟩
   (.ret _ _ _ v [] z rfl) (by rw[w]) (λe=>by cases e)
 |cut2 x a b s s1 s2 v u h z h1 o h2 i i1 i2=>
  intro d q _ p r hr;obtain⟨k,sh,hk⟩:=Qu d;obtain⟨m,y,w,st⟩:=Zi i1 d q h p r;unfold wide XT at z;have j:ofT V a≠2:=by cases sh<;>omega
  obtain⟨o1,_⟩:=h1.inv (g:=.one a) (Ql d (by simp)) q.tick;rw[Z6 w ((st o).trans (Zj j))]at y;obtain⟨m2,r2,e2,aa⟩:=Kl i2 (Ql d (by simp)) o1 o (Fr.told ⟨p,.node x [a,b],1,[]⟩ v) r 1 ⟨by simp[Tr.kids,Fr.told],.inr ⟨rfl,by simp only[Tr.root,Fr.told];omega,λ_ e=>by unfold asks at e;simp only[Tr.root,Fr.told]at e;omega⟩⟩ rfl;exact⟨m2,y.trans r2,e2,λe=>by rw[e]at i;cases i⟩
 |putNo x a b s s1 s2 v u h z h1 o h2 i hb i1 i2=>
  intro d q _ p r hr;obtain⟨k,sh,hk⟩:=Qu d;obtain⟨m,y,w,st⟩:=Zi i1 d q h p r;obtain⟨o1,_⟩:=h1.inv (g:=.one a) (Ql d (by simp)) q.tick;obtain⟨o2,_⟩:=h2.inv (g:=.one b) (Ql d (by simp)) o1
  have j:ofT V a≠2/\ofT V b≠2/\0<=x.n/\x.n.toNat<s2.arrs.length:=by
   rw[o2.alen];cases sh<;>first|omega|skip
   exact⟨by omega,by omega,by assumption,(La.1 (by assumption)).1⟩
  rw[Z6 w ((st o).trans (Zj j.1))]at y;obtain⟨m2,r2,e2,aa⟩:=Kl i2 (Ql d (by simp)) o1 o (Fr.told ⟨p,.node x [a,b],1,[]⟩ v) r 1 ⟨by simp[Tr.kids,Fr.told],.inr ⟨rfl,by simp only[Tr.root,Fr.told];omega,λ_ e=>by unfold asks at e;simp only[Tr.root,Fr.told]at e;omega⟩⟩ rfl
  exact Zw (y.trans r2) (Z6 rfl ((aa i).trans (Zj j.2.1))) (by rw[e2];exact i) ⟨.inr ⟨λe=>by simp[Fr.told,Fr.more]at e,.inr ⟨by simp only[Tr.root,Fr.told,Fr.more];omega,Nat.le_refl _⟩⟩⟩
   (.putNo _ _ _ v u [] z j.2.2.1 (by rw[e2];exact j.2.2.2) rfl (by rw[e2];exact hb)) (by rw[e2]) (λe=>by cases e)
 |put x a b s s1 s2 v u h z h1 o h2 i hb i1 i2=>
  intro d q _ p r hr;obtain⟨k,sh,hk⟩:=Qu d;obtain⟨m,y,w,st⟩:=Zi i1 d q h p r;obtain⟨o1,_⟩:=h1.inv (g:=.one a) (Ql d (by simp)) q.tick;obtain⟨o2,_⟩:=h2.inv (g:=.one b) (Ql d (by simp)) o1
  have j:ofT V a≠2/\ofT V b≠2/\0<=x.n/\x.n.toNat<s2.arrs.length/\ofT V (.node x [a,b])=2:=by
   rw[o2.alen];cases sh<;>first|omega|skip
   exact⟨by omega,by omega,by assumption,(La.1 (by assumption)).1,by omega⟩
  rw[Z6 w ((st o).trans (Zj j.1))]at y;obtain⟨m2,r2,e2,aa⟩:=Kl i2 (Ql d (by simp)) o1 o (Fr.told ⟨p,.node x [a,b],1,[]⟩ v) r 1 ⟨by simp[Tr.kids,Fr.told],.inr ⟨rfl,by simp only[Tr.root,Fr.told];omega,λ_ e=>by unfold asks at e;simp only[Tr.root,Fr.told]at e;omega⟩⟩ rfl
  refine Zw (y.trans r2) (Z6 rfl ((aa i).trans (Zj j.2.1))) (by rw[e2];exact i) ⟨.inr ⟨λe=>by simp[Fr.told,Fr.more]at e,.inr ⟨by simp only[Tr.root,Fr.told,Fr.more];omega,Nat.le_refl _⟩⟩⟩
   (.put _ _ _ v u [] z j.2.2.1 (by rw[e2];exact j.2.2.2.1) rfl (by rw[e2];exact hb)) (by rw[e2];rfl) ?_
  intro _;cases r with
  |nil=>rfl
  |cons g r'=>rw[YL j.2.2.2.2]
 |pairNo x a b s s1 s2 v u h z h1 o h2 i hp i1 i2=>
  intro d q _ p r hr;obtain⟨k,sh,hk⟩:=Qu d;obtain⟨m,y,w,st⟩:=Zi i1 d q h p r;obtain⟨o1,_⟩:=h1.inv (g:=.one a) (Ql d (by simp)) q.tick;have j:ofT V a≠2/\ofT V b≠2:=by cases sh<;>omega
  rw[Z6 w ((st o).trans (Zj j.1))]at y;obtain⟨m2,r2,e2,aa⟩:=Kl i2 (Ql d (by simp)) o1 o (Fr.told ⟨p,.node x [a,b],1,[]⟩ v) r 1 ⟨by simp[Tr.kids,Fr.told],.inr ⟨rfl,by simp only[Tr.root,Fr.told];omega,λ_ e=>by unfold asks at e;simp only[Tr.root,Fr.told]at e;omega⟩⟩ rfl
  exact Zw (y.trans r2) (Z6 rfl ((aa i).trans (Zj j.2))) (by rw[e2];exact i) ⟨.inr ⟨λe=>by simp[Fr.told,Fr.more]at e,.inr ⟨by simp only[Tr.root,Fr.told,Fr.more];omega,Nat.le_refl _⟩⟩⟩
   (.pairNo _ _ _ v u [] z rfl hp) (by rw[e2]) (λe=>by cases e)
 |pair x a b s s1 s2 v u c h z h1 o h2 i hp i1 i2=>
  intro d q _ p r hr;obtain⟨k,sh,hk⟩:=Qu d;obtain⟨m,y,w,st⟩:=Zi i1 d q h p r;obtain⟨o1,_⟩:=h1.inv (g:=.one a) (Ql d (by simp)) q.tick;have j:ofT V a≠2/\ofT V b≠2/\ofT V (.node x [a,b])≠2:=by cases sh<;>omega
  rw[Z6 w ((st o).trans (Zj j.1))]at y;obtain⟨g,r',rfl⟩:=KI (hr j.2.2);obtain⟨m2,r2,e2,aa⟩:=Kl i2 (Ql d (by simp)) o1 o (Fr.told ⟨p,.node x [a,b],1,[]⟩ v) (g::r') 1 ⟨by simp[Tr.kids,Fr.told],.inr ⟨rfl,by simp only[Tr.root,Fr.told];omega,λ_ e=>by unfold asks at e;simp only[Tr.root,Fr.told]at e;omega⟩⟩ rfl
  exact Zw (y.trans r2) (Z6 rfl ((aa i).trans (Zj j.2.1))) (by rw[e2];exact i) ⟨.inr ⟨λe=>by simp[Fr.told,Fr.more]at e,.inr ⟨by simp only[Tr.root,Fr.told,Fr.more];omega,Nat.le_refl _⟩⟩⟩
   (.pair _ _ g r' v u c [] z rfl hp) e2 (λ_=>by rw[Zj j.2.2])
structure LenS (V:List Int)(s:Ms):Prop where
 vlen:s.vals.length=V.length
 alen:s.arrs.length=V.length
 len:∀(i:Nat) (t:Int) (a:List Int),V[i]? =some t->s.arrs[i]? =some a->(a.length:Int)=QC t
theorem OkS.lens{V:List Int}{s:Ms}(h:OkS V s):LenS V s:=⟨h.vlen,h.alen,λi t a h1 h2=>(h.arr i t a h1 h2).1⟩
theorem LenS.arr_len{V:List Int}{s:Ms}(h:LenS V s){n t:Int}(hv:V[n.toNat]? =some t):((s.arr n).length:Int)=QC t:=by
 have c:n.toNat<V.length:=(La.1 hv).1;have d:s.arrs[n.toNat]? =some (s.arrs[n.toNat]'(by rw[h.alen];exact c)):=Lb _;unfold Ms.arr;rw[d];exact h.len _ _ _ hv d
theorem LenS.stop{V:List Int}{s:Ms}(h:LenS V s)(k v:Int):LenS V (s.stop k v):=⟨h.vlen,h.alen,h.len⟩
theorem LenS.tick{V:List Int}{s:Ms}(h:LenS V s):LenS V s.tick:=⟨h.vlen,h.alen,h.len⟩
theorem LenS.setv{V:List Int}{s:Ms}(h:LenS V s)(n v:Int):LenS V (s.setv n v):=⟨by simp[Ms.setv,h.vlen],h.alen,h.len⟩
theorem LenS.seta{V:List Int}{s:Ms}(h:LenS V s)(n i v:Int):LenS V (s.seta n i v):=by
 refine⟨h.vlen,by simp[Ms.seta,h.alen],λj t a d c=>?_⟩;have g:j<s.arrs.length:=by rw[h.alen];exact(La.1 d).1
 simp only[Ms.seta]at c;by_cases e:n.toNat=j
 ·subst e;rw[N1 g]at c;injection c with c;subst c;rw[LM];exact h.arr_len d
 ·rw[List.getElem?_set_ne e]at c;exact h.len j t a d c
structure FOk (l:List Nd)(f:Fr):Prop where
 hat:At l f.at_ f.t
 kid:f.kid<=f.t.kids.length
 vals:f.vals.length<=f.kid
structure SOk (l:List Nd)(st:List Fr):Prop where
 top:∀f r,st=f::r->FOk l f
 rest:∀f r,st=f::r->∀g∈r,FOk l g/\g.vals.length+1<=g.kid
theorem SOk.nil (l:List Nd):SOk l []:=⟨λ_ _ h=>by simp at h,λ_ _ h=>by simp at h⟩
theorem SOk.tail{l:List Nd}{f:Fr}{r:List Fr}(h:SOk l (f::r)):SOk l r:=
 ⟨λg r' e=>(h.rest f r rfl g (by rw[e];simp)).1,λg r' e k hk=>h.rest f r rfl k (by rw[e];simp[hk])⟩
theorem SOk.told{l:List Nd}{f g:Fr}{r:List Fr}(h:SOk l (f::g::r))(v:Int):SOk l (g.told v::r):=by
 have c:=h.rest f (g::r) rfl g (by simp);refine⟨λa b e=>?_,λa b e k d=>?_⟩
 ·injection e with e1 e2;subst e1;exact⟨c.1.hat,c.1.kid,by simp only[Fr.told,Le,Nf];exact c.2⟩
 ·injection e with e1 e2;subst e2;exact h.rest f (g::r) rfl k (by simp[d])
theorem SOk.enter{l:List Nd}{s:Ms}{r:List Fr}(h:SOk l r)(h1:∀g∈r,g.vals.length+1<=g.kid/\FOk l g){q:Nat}{t:Tr}(hat:At l q t):SOk l (Z2 q t ⟨s,r⟩).stack:=by
 unfold Z2;split
 ·exact h
 ·refine⟨λa b e=>?_,λa b e k c=>?_⟩
  ·injection e with e1 e2;subst e1;exact⟨hat,Nat.zero_le _,Nat.le_refl _⟩
  ·injection e with e1 e2;subst e2;exact⟨(h1 k c).2,(h1 k c).1⟩
theorem LenS.enter{V:List Int}{s:Ms}{r:List Fr}(h:LenS V s){q:Nat}{t:Tr}:LenS V (Z2 q t ⟨s,r⟩).s:=by
 unfold Z2;split
 ·exact h.stop _ _
 ·exact h.tick
theorem Fin.ok{l:List Nd}{V:List Int}{f:Fr}{s:Ms}{r:List Fr}{m:Mm}(h:Fin f s r m)(hs:SOk l (f::r))(hl:LenS V s):SOk l m.stack/\LenS V m.s:=by
 have c:=hs.tail;cases h with
 |lit=>exact⟨hs.told _,hl⟩
 |var=>exact⟨hs.told _,hl⟩
 |atNo=>exact⟨c,hl.stop _ _⟩
 |at_=>exact⟨hs.told _,hl⟩
 |neg=>exact⟨hs.told _,hl⟩
 |not=>exact⟨hs.told _,hl⟩
 |logic=>exact⟨hs.told _,hl⟩
 |set=>exact⟨c,hl.setv _ _⟩
 |putNo=>exact⟨c,hl.stop _ _⟩
 |put=>exact⟨c,hl.seta _ _ _⟩
 |while1=>exact⟨c.enter (λg d=>⟨(hs.rest f _ rfl g d).2,(hs.rest f _ rfl g d).1⟩) (hs.top f _ rfl).hat,hl.enter⟩
 |while0=>exact⟨c,hl⟩
 |ret=>exact⟨c,hl.stop _ _⟩
 |nothing=>exact⟨c,hl⟩
 |pairNo=>exact⟨c,hl.stop _ _⟩
 |pair=>exact⟨hs.told _,hl⟩
theorem Step.ok{l:List Nd}{V:List Int}{m m':Mm}(h:Step m m')(hs:SOk l m.stack)(hl:LenS V m.s):SOk l m'.stack/\LenS V m'.s:=by
 cases h with
 |done s=>exact⟨SOk.nil l,hl.stop _ _⟩
 |kid s f r i q k hi hq hk=>
  have c:=hs.top f r rfl;have j:=(c.hat.kids.spot i q k hq hk).1;have o:=hi.lt;have n:SOk l (f.more::r):=⟨λa b e=>by injection e with e1 e2;subst e1;exact⟨c.hat,by simp only[Fr.more];omega,by have:=c.vals;simp only[Fr.more];omega⟩,λa b e g d=>by injection e with e1 e2;subst e2;exact hs.rest f r rfl g d⟩;refine⟨n.enter (λg d=>?_) j,hl.enter⟩;rcases Ls.1 d with rfl|d
  ·exact⟨by have:=c.vals;simp only[Fr.more];omega,n.top _ _ rfl⟩
  ·exact⟨(hs.rest f r rfl g d).2,(hs.rest f r rfl g d).1⟩
 |fin s f r m' hn c=>exact c.ok hs hl
theorem FOk.few{l:List Nd}{f:Fr}(h:FOk l f):f.t.kids.length<=200/\f.vals.length<=200:=by
 have c:=h.kid;have d:=h.vals;have e:=h.hat.fits.arity;have g:=JT f.t.root;omega
inductive ReachN:Nat->Mm->Mm->Prop
 |refl (m:Mm):ReachN 0 m m
 |step (n:Nat) (m m' m'':Mm) (ho:m.s.out=none) (h:Step m m') (r:ReachN n m' m''):ReachN (n+1) m m''
theorem Reach.count{a b:Mm}(h:Reach a b):∃n,ReachN n a b:=by
 induction h with
 |refl m=>exact⟨0,.refl m⟩
 |step m m' m'' ho h _ ih=>
  obtain⟨n,c⟩:=ih;exact⟨n+1,.step n _ _ _ ho h c⟩
theorem Aim{P:Nat->Prop}(h:∃n,P n):∃n,P n/\∀k,P k->n<=k:=by
 obtain⟨n,i⟩:=h
 induction n using Nat.strongRecOn with
 |ind n ih=>
  by_cases e:∃k,k<n/\P k
  ·obtain⟨k,g,d⟩:=e;exact ih k g d
  ·exact⟨n,i,λk d=>by
     by_cases c:k<n
     ·exact absurd ⟨k,c,d⟩ e
     ·omega⟩
noncomputable def Ab4 (P:Nat->Prop):Nat:=Classical.epsilon λn=>P n/\∀k,P k->n<=k
theorem YE{P:Nat->Prop}(h:∃n,P n):P (Ab4 P)/\∀k,P k->Ab4 P<=k:=Classical.epsilon_spec (Aim h)
end Go.Proofs.YtkoikjnlpifbjaaGreat
