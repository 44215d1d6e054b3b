/- Lemmas for ArAll. -/
import Derived.Test.YtgnmkiafeplbpaaGreatDoorZf6
import Derived.Test.YtgnmkiafeplbpaaGreatDoorZf4
import Derived.Test.YtgnmkiafeplbpaaGreatDoorZf3
import Derived.Test.YtgnmkiafeplbpaaGreatDoorZf1
import Derived.Maps.AppendAt
import Derived.Deep.Cut
import Derived.Lib.AppendZerosOnto
import Derived.Test.YtgnmkiafeplbpaaGreatDoorRows
import Derived.Great.BuildSlice
import Derived.Lib.SliceRun
set_option linter.unusedVariables false
set_option linter.unusedSimpArgs false
set_option maxRecDepth 100000
set_option maxHeartbeats 16000000
namespace Go.Proofs.YtgnmkiafeplbpaaGreatDoor
open Go.RowKit Go.Deep
structure Good (p:PgV)(t:Tr):Prop where
 hat:At p.body 0 t
 size:t.size=p.body.length
 vars:Yn p.params p.V
 tag:t.root.tag=20
 kind:ofT p.V t=2
theorem At.uniq{l:List Nd}{q:Nat}{a b:Tr}(ha:At l q a)(hb:At l q b):a=b:=by
 have o:∀n,(∀(a b:Tr) (r s:List Nd),a.size<=n->a.fits->b.fits->a.flat++r=b.flat++s->a=b)/\(∀(c g:List Tr) (r s:List Nd),(QM c).length<=n->c.length=g.length->(∀t∈c,t.fits)->(∀t∈g,t.fits)->QM c++r=QM g++s->c=g):=by
  intro n
  induction n with
  |zero=>
   refine⟨λa b r s h=>by have:=a.size_eq;omega,λc g r s h d _ _ _=>?_⟩;cases c with
   |nil=>exact(L3 (by simpa using d.symm)).symm
   |cons t ts=>rw[QM,La]at h;have:=t.size_eq;have aa:t.size=t.flat.length:=rfl;omega
  |succ n ih=>
   have one:∀(a b:Tr) (r s:List Nd),a.size<=n+1->a.fits->b.fits->a.flat++r=b.flat++s->a=b:=by
    rintro⟨x,p⟩ ⟨y,w⟩ r s h i j e;have v:=e;rw[Tr.flat_eq,Tr.flat_eq,Lk,Lk]at v;injection v with e1 e2;simp only[Tr.root,Tr.kids]at e1 e2;subst e1
    have d:p.length=w.length:=by
     have z:=i.arity;have h2:=j.arity;simp only[Tr.root,Tr.kids]at z h2;omega
    have h4:=(Tr.node x p).size_eq;simp only[Tr.kids]at h4;rw[ih.2 p w r s (by omega) d i.kid j.kid e2]
   refine⟨one,λc g=>?_⟩
   induction c generalizing g with
   |nil=>intro r s _ d _ _ _;exact(L3 (by simpa using d.symm)).symm
   |cons t ts iht=>
    intro r s h d i j e;cases g with
    |nil=>simp at d
    |cons u us=>
     rw[QM,QM,L4,L4]at e;rw[QM,La]at h;have ht:t=u:=one t u _ _ (by unfold Tr.size;omega) (i t (by simp)) (j u (by simp)) e;subst ht;rw[iht us r s (by omega) (by simpa using d) (λk m=>i k (by simp[m])) (λk m=>j k (by simp[m])) (List.append_cancel_left e)]
 obtain⟨r,hr⟩:=ha.here;obtain⟨s,hs⟩:=hb.here;exact(o a.size).1 a b r s (Nat.le_refl _) ha.fits hb.fits (by rw[<-hr,hs])
theorem Ur{p:PgV}{t:Tr}(hat:At p.body 0 t)(h:¬(t.root.tag=20/\ofT p.V t=2)):∀t',¬Good p t':=λt' g=>by
 have:=hat.uniq g.hat;subst this;exact h ⟨g.tag,g.kind⟩
theorem EM (a:Int)(V:List Int):KJ a V=0/\Yn a V\/KJ a V=14:=by
 unfold KJ;by_cases h:Yn a V
 ·rw[if_pos h];exact .inl ⟨rfl,h⟩
 ·rw[if_neg h];exact .inr rfl
end Go.Proofs.YtgnmkiafeplbpaaGreatDoor
namespace Go.Proofs.YtgnmkiafeplbpaaGreatDoor
open Go.RowKit
structure Mt where
 d:Dl
 verdict:Int
 test:Int
 kind:Int
 value:Int
 digest:List UInt8
structure Sc where
 alive:Int
 killed:Int
 timeout:Int
def ZM (l:List Mt)(v:Int):Int:=((l.filter λm=>m.verdict==v).length:Int)
def Zf (l:List Mt):Sc:=⟨ZM l 0,ZM l 1,ZM l 2⟩
def Zk (params:Int)(tests:List (List Int))(fuel:Int):Int:=
 if tests.length<1\/20<tests.length then 18 else if ∀l∈tests,(l.length:Int)=params then(if fuel<1\/10000<fuel then 19 else 0)else 18
def Kd (m:Mt):Bool:=
 if m.verdict=0 then decide (m.test= -1/\m.kind=0/\m.value=0/\m.digest=[])
 else if m.verdict=1 then decide ((0<=m.test/\m.test<=19/\m.digest.length=32)/\0<=m.kind/\m.kind<=3/\(m.kind=0\/m.value=0))
 else if m.verdict=2 then decide ((0<=m.test/\m.test<=19/\m.digest.length=32)/\m.kind=4/\m.value=0)else false
def K7:List Mt->Prop
 |[]=>True
 |[_]=>True
 |a::b::l=>Zw a.d b.d<0/\K7 (b::l)
def Kf (a b:Mt):Bool:=decide (Zw a.d b.d=0/\a.verdict=b.verdict/\a.test=b.test/\(a.kind=b.kind/\a.value=b.value)/\a.digest=b.digest)
theorem sameM_iff{a b:Mt}:Kf a b=true<->a=b:=by
 unfold Kf;rw[decide_eq_true_eq,cmpD_eq];cases a;cases b;simp only[Mt.mk.injEq];constructor
 ·rintro⟨c,d,e,⟨g,h⟩,i⟩;exact⟨c,d,e,g,h,i⟩
 ·rintro⟨c,d,e,g,h,i⟩;exact⟨c,d,e,⟨g,h⟩,i⟩
theorem riseM_iff:∀{l:List Mt},K7 l<->K6 (l.map Mt.d)
 |[]=>Iff.rfl
 |[_]=>Iff.rfl
 |a::b::l=>by
  show Zw a.d b.d<0/\K7 (b::l)<->Zw a.d b.d<0/\K6 ((b::l).map Mt.d)
  rw[riseM_iff]
end Go.Proofs.YtgnmkiafeplbpaaGreatDoor
namespace Go.Proofs.YtgnmkiafeplbpaaGreatDoor
open Go.RowKit Go.Deep
theorem EK (A B:Option Addr)(c d na nb:Nat)(a b:List Int)(w:World)(hna:na=a.length)(hnb:nb=b.length)(ha:Rd w A (Qj a))(hb:Rd w B (Qj b))(hla:a.length<=1000000):
 Calls Tryz.prog 124 #[.slice A na c,.slice B nb d] w λe w'=>e=.returned (.bool (decide (a=b)))/\Below w.heap.size w w':=by
 by_cases hl:na=nb;rotate_left
 ·have ak:((na:Int) != (nb:Int))=true:=by simp;omega
  have v:a≠b:=λe=>hl (by rw[hna,hnb,e])
  have p:Hid (decide (a=b)=false):=by show _=_;simp[v]
  clear hl hna hnb v ha hb hla;go_enter Tryz.func124,Tryz.ntmps124
  go_wp2
  go_ret
  exact⟨QD p.out,Below.refl _ _⟩
 subst hl;have Ha:=Lv hna;have Hb:=Lv hnb;have al:(na:Int)<=1000000:=by omega
 clear hna hnb hla;obtain⟨S,j⟩:∃S,S=(λW=>Rd W A (Qj a)/\Rd W B (Qj b)/\Below w.heap.size w W):=⟨_,rfl⟩;have am:St S:=by rw[j];infer_instance
 have s:Hid (∀W,S W->Rd W A (Qj a)):=by show ∀W,_;rw[j];exact λW h=>h.1
 have t:Hid (∀W,S W->Rd W B (Qj b)):=by show ∀W,_;rw[j];exact λW h=>h.2.1
 have u:Hid (∀W,S W->Below w.heap.size w W):=by show ∀W,_;rw[j];exact λW h=>h.2.2
 have l:S w:=by rw[j];exact⟨ha,hb,Below.refl _ _⟩
 clear j ha hb;go_enter Tryz.func124,Tryz.ntmps124
 go_wp2
 go_loopw [5] (λi wr=>∃k:Nat,i=.int .i64 (k:Int)/\k<=na/\Hid (a.take k=b.take k)/\S wr) (λi _=>na-(intOf i).toNat)
 case atStart=>exact⟨0,by simp,Nat.zero_le _,by simp[Hid],l⟩
 case round=>
  clear l;obtain⟨k,rfl,hk,z,l⟩:=hrel;by_cases ag:k<na
  ·obtain⟨e,he⟩:∃e,a[k]? =some e:=⟨_,Ld (by have:=Ha.out;omega)⟩;obtain⟨f,hf⟩:∃f,b[k]? =some f:=⟨_,Ld (by have:=Hb.out;omega)⟩;obtain⟨ad,ae,_⟩:=Q4 (s.out _ l) he;obtain⟨bd,af,_⟩:=Q4 (t.out _ l) hf;subst ae af
   have n:Hid (∀W,S W->W.cell? (ad.add k)=some (.int .i64 e)):=λW h=>by
    obtain⟨ac,g,h2⟩:=Q4 (s.out _ h) he;injection g with g;subst g;exact h2
   have o:Hid (∀W,S W->W.cell? (bd.add k)=some (.int .i64 f)):=λW h=>by
    obtain⟨ac,g,h2⟩:=Q4 (t.out _ h) hf;injection g with g;subst g;exact h2
   have x:=Lv he;have y:=Lv hf;have ai:(k:Int)<(na:Int):=by omega
   have aj:IntKind.i64.wrap ((k:Int)+1)=(k:Int)+1:=IntWalk.i64_in _ (by omega);clear he hf;go_wp2
   refine QG S (by kernel_rfl) (by kernel_rfl) (St.drew l) ?_;clear l
   iterate 3 (refine Qe rfl ?_ (λW q=>?_) ?_;rotate_left;(focus(go_simp;exact rfl));simp only[Act.put,Qa,Qb,Qc])
   (refine Qe rfl ?_ (λW q=>?_) ?_;rotate_left;(focus(have c:=n.out W q;go_simp;exact rfl));simp only[Act.put,Qa,Qb,Qc])
   iterate 3 (refine Qe rfl ?_ (λW q=>?_) ?_;rotate_left;(focus(go_simp;exact rfl));simp only[Act.put,Qa,Qb,Qc])
   (refine Qe rfl ?_ (λW q=>?_) ?_;rotate_left;(focus(have c:=o.out W q;go_simp;exact rfl));simp only[Act.put,Qa,Qb,Qc]);(refine Qe rfl ?_ (λW q=>?_) ?_;rotate_left;(focus(go_simp;exact rfl));simp only[Act.put,Qa,Qb,Qc]);refine QE λW l=>?_
   by_cases m:e=f
   ·subst m;have ah:(e != e)=false:=by simp
    have ab:Hid (a.take (k+1)=b.take (k+1)):=by
     show _=_;rw[L5,L5,z.out,x.out,y.out]
    clear n o x y z;go_wp2
    go_roundw
    case rel=>exact⟨k+1,by go_num,by omega,ab,l⟩
    case measure=>simp[intOf];omega
   ·have ah:(e != f)=true:=by simpa using m
    have p:Hid (decide (a=b)=false):=by
     show _=_
     have:a≠b:=λh=>m (by
      have g:=x.out
      rw[h,y.out]at g
      exact(Option.some.inj g).symm)
     simp[this]
    clear n o x y z m;go_wp2
    go_ret
    exact⟨QD p.out,u.out _ l⟩
  ·obtain rfl:k=na:=by omega
   have aa:Hid (decide (a=b)=true):=by
    show _=_;have g:=z.out;rw[Lm (by have:=Ha.out;omega),Lm (by have:=Hb.out;omega)]at g;simp[g]
   clear ag hk;go_wp2
   go_ret
   exact⟨QD aa.out,u.out _ l⟩
theorem AaZ{W':World}{B g size:Nat}{e:TypeId}(hB:B<=g)(h:Row W' g e #[]):W'.ownsRow B e size (.slice (some ⟨g,0,none⟩) 0 0) 0 []:=
 ⟨by simp,.inr ⟨g,0,#[],rfl,hB,h,Nat.le_refl _,Nat.zero_le _,by simp,by simp⟩⟩
theorem Ja{P:Program}{o:Oper}{w w1:World}{ρ:Operand->Value}{t:TypeId}{n:Nat}(ps:List (Nat×Operand))(ho:o.op=.buildSlice t n ps.toArray){v:Value}(hv:(Instr.buildSlice t n (ps.map λ(i,x)=>(i,ρ x)).toArray).run P w=.ok v w1):(execOp ρ o).run P w=.ok (.value v) w1:=by
 simp only[execOp,ho,Sem.run_bind,Nw,hv,Result.andThen_ok,Sem.run_pure]
theorem QF{P:Program}{o:Oper}{w w1:World}{ρ:Operand->Value}{s x:Operand}{t:TypeId}(ho:o.op=.call { callee:=.builtin .append,args:=#[s,x],argTypes:=#[t,t] }){v:Value}(hv:(Builtin.append_ #[t,t] o.type #[ρ s,ρ x]).run P w=.ok v w1):(execOp ρ o).run P w=.ok (.value v) w1:=by
 unfold execOp;simp only[ho,resolve,invoke,builtin,Sem.run_bind,Sem.run_pure,Result.andThen_ok,Nw,No,List.map_nil,hv]
theorem Abg{P:Program}{w:World}{base size n c:Nat}{t ty e:TypeId}{i:TypeInfo}{v:Value}{xs:List Value}(ht:P.underlying t=some (.slice e))(hi:P.info? e=some i)(hown:w.ownsRow base e size v n xs):(Builtin.append_ #[t,t] ty #[v,.slice none 0 c]).run P w=.ok v w:=by
 rcases hown.2 with⟨rfl,rfl⟩|⟨g,b,d,rfl,_,_,a,_⟩
 ·simp[Builtin.append_,run_underlying ht,sizeOf,typeInfo,hi,Builtin.lenOf,Builtin.firstCells]
 ·simp[Builtin.append_,run_underlying ht,sizeOf,typeInfo,hi,Builtin.lenOf,Builtin.firstCells,a,storeCells]
theorem Zq{P:Program}(t e:TypeId)(z:Value)(size bytes:Nat)(ht:P.underlying t=some (.slice e))(hinf:(P.info? e).map (λi=>(i.zero,i.size,i.bytes))=some (some z,size,bytes))(hzs:z.cells.size=size)(hsz:0<size)(hby:bytes<=100)
 {W:World} {B n m cap:Nat} {v:Value} {xs cs:List Value} {A:Option Addr} (hown:W.ownsRow B e size v n xs) (hB:B<=W.heap.size) (hr:Rd W A cs) (hlen:cs.length=m*size) (h1:∀u∈cs,u.oneCell'=true) (hA:A=none->m=0) (hb:n+m<=1000000):
 ∃v' W',(Builtin.append_ #[t,t] t #[v,.slice A m cap]).run P W=.ok v' W'/\W'.ownsRow B e size v' (n+m) (xs++cs)/\W.grownBy W' v.ownBlock/\(v'.ownBlock=v.ownBlock\/v'.ownBlock=some W.heap.size):=by
 obtain⟨x,a,b,c,d⟩:=info_parts hinf;rcases A with _|g
 ·have k:=hA rfl;subst k;have w:cs=[]:=L3 (by simpa using hlen);subst w;exact⟨v,W,Abg ht a hown,by simpa using hown,World.grownBy.refl _ _,.inl rfl⟩
 ·obtain⟨v',W',h1,l,o,_,p⟩:=run_append_own_at (P:=P) W B t t e x z size bytes ht a b c d hzs hsz v n xs hown g m cap cs hlen
    (λj u s=>by obtain⟨h,e,q⟩:=hr j u s;injection e with e;subst e;exact q) h1 (by unfold maxLen;omega) (by have:=Nat.mul_le_mul hb hby;omega) hB
  exact⟨v',W',h1,l,o,p⟩
theorem AgE:(Tryz.prog.info? 52).map (λi=>(i.zero,i.size,i.bytes))=some (some (.agg #[.int .i64 0,.int .i64 0]),2,16):=by kernel_rfl
theorem Aaj{ops:Array Oper}{rest:List Oper}{o:Oper}{a:Act}{w:World}{Q:Exit->Act->World->Prop}(h:Stop (wpList Tryz.prog ops Q (o::rest) a w) id):wpList Tryz.prog ops Q (o::rest) a w:=h.out
theorem Zc{P:Program}{ops:Array Oper}{rest:List Oper}{o:Oper}{a:Act}{w w1:World}{Q:Exit->Act->World->Prop}(hgd:o.guard=none)(v:Value)(hv:(execOp a.eval o).run P w=.ok (.value v) w1)(h:wpList P ops Q rest (a.put o.dst v) w1):wpList P ops Q (o::rest) a w:=
 wpList_plain hgd λ_ hK=>by unfold Oper.wp;rw[hv];exact hK _ _ h
theorem Ei{P:Program}{o:Oper}{w w1:World}{ρ:Operand->Value}{s x:Operand}{t u:TypeId}(ho:o.op=.call { callee:=.builtin .append,args:=#[s,x],argTypes:=#[t,u] }){v:Value}(hv:(Builtin.append_ #[t,u] o.type #[ρ s,ρ x]).run P w=.ok v w1):(execOp ρ o).run P w=.ok (.value v) w1:=by
 unfold execOp;simp only[ho,resolve,invoke,builtin,Sem.run_bind,Sem.run_pure,Result.andThen_ok,Nw,No,List.map_nil,hv]
theorem AhM (n:Nat)(hn:n<=1000000)(w:World):Calls Tryz.prog 302 #[.slice none 0 0,.int .i64 (n:Int)] w λe w'=>∃A cap,e=.returned (.slice A 0 cap)/\w'.ownsRow w.heap.size 52 2 (.slice A 0 cap) 0 []/\Below w.heap.size w w':=by
 have u:¬((n:Int)<0):=by omega
 have v:wrap64 ((0:Int)-0)=0:=by unfold wrap64;omega
 have x:wrap64 ((n:Int)-0)=(n:Int):=by unfold wrap64;omega
 have y:IntKind.i64.wrap (n:Int)=(n:Int):=IntWalk.i64_in _ (by omega);by_cases p:n=0
 ·subst p;go_enter Tryz.func302,Tryz.ntmps302
  go_wp2
  go_ret
  exact⟨_,_,rfl,World.ownsRow_nil _ _ _ _,Below.refl _ _⟩
 ·have z:(0:Int)<(n:Int):=by omega
  obtain⟨m,i,j,k,d⟩:=info_parts AgE;have b:(Builtin.firstCells m.size 0 (.slice none 0 0)).run Tryz.prog w.drew=.ok ([]:List Value).toArray w.drew:=run_firstCells_none w.drew m.size 0 0 0
  have a:=λt=>Lib.run_append_grow_zeros (P:=Tryz.prog) w 23 3 t 52 m _ .i64 .i64 Tryz.underlying23 Tryz.underlying3 i j none 0 0 [] b n (by omega) (by rw[k];omega) (by omega) (by omega) (by rw[d];omega) (growslice_fits (by omega) (by rw[d];omega))
  simp only[LS]at a;have l:=grownCap_ge w n 0 52;have c:=grownCap_le_maxLen w n 0 52 (by unfold maxLen;omega);generalize grownCap w n 0 52=G at a l c
  have h:((([]:List Value).toArray++Builtin.zeroCells (Value.agg #[.int .i64 0,.int .i64 0]).cells n++Builtin.zeroCells (Value.agg #[.int .i64 0,.int .i64 0]).cells (G-n)):Array Value).size=G*2:=by
   simp only[Array.size_append,size_zeroCells];show 0+n*2+(G-n)*2=G*2;omega
  generalize (([]:List Value).toArray++Builtin.zeroCells (Value.agg #[.int .i64 0,.int .i64 0]).cells n++Builtin.zeroCells (Value.agg #[.int .i64 0,.int .i64 0]).cells (G-n))=cs at a h;have g:=Lv a;have s:G<=9223372036854775807:=by unfold maxLen at c;omega
  clear a i j k d b p;go_enter Tryz.func302,Tryz.ntmps302
  go_wp2_with (at_builtin;refine Aaj ?_)
  refine Stop.to ?_;refine Zc rfl _ (Ei rfl (g.out _)) ?_;have q:Row (w.drew.alloc (.cells cs 52)) w.heap.size 52 cs:=Row.new w.drew _ _;have o:Below w.heap.size w (w.drew.alloc (.cells cs 52)):=(⟨rfl,rfl,rfl,Nat.le_refl _,λ_ _=>rfl⟩:Below w.heap.size w w.drew).trans ((Below.refl _ w.drew).alloc (Nat.le_refl _) _);generalize w.drew.alloc (.cells cs 52)=w1 at q o|-;clear g;go_wp2
  go_ret
  exact⟨_,_,rfl,⟨by simp,.inr ⟨w.heap.size,G,cs,rfl,Nat.le_refl _,q,Nat.zero_le _,c,h,by simp⟩⟩,o⟩
structure PtV where
 addr:Option Addr
 cap:Nat
 body:List Nd
def PtV.val (q:PtV):Value:=.slice q.addr q.body.length q.cap
def PtV.rd (q:PtV)(w:World):Prop:=Rd w q.addr (q.body.flatMap Nd.cells)/\(q.addr=none->q.body=[])
def Q7 (ps:List PtV):List Nd:=ps.flatMap PtV.body
theorem PtV.rd.go{q:PtV}{w w':World}(h:q.rd w)(b:Below w.heap.size w w'):q.rd w':=⟨h.1.go b,h.2⟩
theorem Adk (l:List Nd):(l.flatMap Nd.cells).length=l.length*2:=by
 induction l with
 |nil=>rfl
 |cons a l ih=>simp only[LF,La,ih,Le];simp[Nd.cells];omega
theorem Alz (l:List Nd):∀u∈l.flatMap Nd.cells,u.oneCell'=true:=by
 intro u b;simp only[N7,Nd.cells,L6,LJ,or_false]at b;obtain⟨a,_,rfl|rfl⟩:=b<;>rfl
theorem Yb{W:World}{B n m cap:Nat}{v:Value}{xs:List Value}{A:Option Addr}{l:List Nd}(hown:W.ownsRow B 52 2 v n xs)(hB:B<=W.heap.size)(hr:Rd W A (l.flatMap Nd.cells))(hm:m=l.length)(hA:A=none->m=0)(hb:n+m<=1000000):
 ∃v' W',(Builtin.append_ #[23,23] 23 #[v,.slice A m cap]).run Tryz.prog W=.ok v' W'/\W'.ownsRow B 52 2 v' (n+m) (xs++l.flatMap Nd.cells)/\W.grownBy W' v.ownBlock/\(v'.ownBlock=v.ownBlock\/v'.ownBlock=some W.heap.size):=
 Zq 23 52 _ 2 16 Tryz.underlying23 AgE rfl (by decide) (by decide) hown hB hr (by rw[Adk,hm]) (Alz l) hA hb
theorem JQ{w:World}{base n size:Nat}{e:TypeId}{v:Value}{xs:List Value}(h:w.ownsRow base e size v n xs):∃A cap,v=.slice A n cap:=by
 rcases h.2 with⟨rfl,b⟩|⟨g,cap,a,rfl,_⟩
 ·subst b;exact⟨_,_,rfl⟩
 ·exact⟨_,_,rfl⟩
theorem ED{ps:List PtV}{k:Nat}{q:PtV}(h:ps[k]? =some q):Q7 (ps.take (k+1))=Q7 (ps.take k)++q.body:=by
 unfold Q7;rw[L5,h];simp
theorem AcG (ps:List PtV)(k:Nat):(Q7 (ps.take k)).length<=(Q7 ps).length:=by
 have:Q7 ps=Q7 (ps.take k)++Q7 (ps.drop k):=by
  unfold Q7;rw[<-LM,LC]
 rw[this];simp
theorem Afr (A:Option Addr)(m cp:Nat)(ps:List PtV)(w:World)(hm:m=ps.length)(hr:Rd w A (ps.map PtV.val))(hps:∀q∈ps,q.rd w)(hl:(Q7 ps).length<=1000000)(hml:m<=1000):
 Calls Tryz.prog 297 #[.slice A m cp] w λe w'=>∃v,e=.returned v/\w'.ownsRow w.heap.size 52 2 v (Q7 ps).length ((Q7 ps).flatMap Nd.cells)/\Below w.heap.size w w':=by
 have Hr:=Lv hr;have ac:=Lv hps;have Hm:=Lv hm;have ae:=hl;clear hr hps hm;go_enter Tryz.func297,Tryz.ntmps297
 go_wp2
 go_loopw [3,11] (λs i wr=>∃k:Nat,i=.int .i64 (k:Int)/\s=.int .i64 ((Q7 (ps.take k)).length:Int)/\k<=m/\w=wr) (λ_ i _=>m-(intOf i).toNat)
 case atStart=>exact⟨0,rfl,by simp[Q7],Nat.zero_le _,rfl⟩
 case round=>
  obtain⟨k,rfl,rfl,hk,rfl⟩:=hrel;by_cases u:k<m
  ·obtain⟨q,l⟩:∃q,ps[k]? =some q:=⟨_,Ld (by have:=Hm.out;omega)⟩;obtain⟨ad,rfl,hc⟩:=Hr.out k q.val (by simp[l]);have ai:(k:Int)<(m:Int):=by omega
   have y:=ED l;have c:=AcG ps (k+1);rw[y,La]at c;have e1:IntKind.i64.wrap (((Q7 (ps.take k)).length:Int)+(q.body.length:Int))=((Q7 (ps.take k)).length:Int)+(q.body.length:Int):=IntWalk.i64_in _ (by omega);have e2:¬(((Q7 (ps.take k)).length:Int)+(q.body.length:Int)<0):=by omega
   have ag:IntKind.i64.wrap ((k:Int)+1)=(k:Int)+1:=IntWalk.i64_in _ (by omega);have Hs:Hid ((((Q7 (ps.take k)).length:Int)+(q.body.length:Int))=((Q7 (ps.take (k+1))).length:Int)):=by show _=_;rw[y,La];omega
   unfold PtV.val at hc;clear y c l;generalize (Q7 (ps.take k)).length=sk at*;go_wp2
   go_roundw
   case rel=>exact⟨k+1,by go_num,by rw[<-Hs.out],by omega,by trivial⟩
   case measure=>simp[intOf];omega
  ·obtain rfl:k=m:=by omega
   have ht:ps.take k=ps:=by rw[Hm.out];exact LO
   rw[ht];obtain⟨n,hn⟩:∃n,n=(Q7 ps).length:=⟨_,rfl⟩;have Hn:=Lv hn;rw[<-hn]at hl|-;clear u hk ht hn ae;go_wp2_with fail
   refine(AhM n hl w).mono ?_;rintro e w1 ⟨A1,c1,rfl,g,b1⟩;have a:=Lv g;have z:=Lv b1;clear g b1;go_wp2
   go_loopw [6,27] (λs i W=>∃(k':Nat) (v:Value),s=v/\i=.int .i64 (k':Int)/\k'<=k/\Hid (W.ownsRow w.heap.size 52 2 v (Q7 (ps.take k')).length ((Q7 (ps.take k')).flatMap Nd.cells))/\Hid (Below w.heap.size w W)) (λ_ i _=>k-(intOf i).toNat)
   case atStart=>exact⟨0,_,rfl,rfl,Nat.zero_le _,by simpa[Q7]using a,z⟩
   case round=>
    clear a z;obtain⟨j,v,rfl,rfl,hj,a,p⟩:=hrel;by_cases u:j<k
    ·obtain⟨q,l⟩:∃q,ps[j]? =some q:=⟨_,Ld (by have:=Hm.out;omega)⟩;obtain⟨ad,rfl,hc⟩:=(Hr.out.go p.out) j q.val (by simp[l]);have x:=(ac.out q (Li l)).go p.out;have ah:(j:Int)<(k:Int):=by omega
     have y:=ED l;have c:=AcG ps (j+1);rw[y,La, <-Hn.out]at c;have af:IntKind.i64.wrap ((j:Int)+1)=(j:Int)+1:=IntWalk.i64_in _ (by omega);obtain⟨v2,W2,o,b,aa,_⟩:=Yb (cap:=q.cap) a.out p.out.size x.1 (rfl:q.body.length=q.body.length) (λh=>by rw[x.2 h];rfl) (by omega);have b2:=QJ (Below.refl w.heap.size _) a.out aa p.out.size (Nat.le_refl _)
     have t:Hid (W2.ownsRow w.heap.size 52 2 v2 (Q7 (ps.take (j+1))).length ((Q7 (ps.take (j+1))).flatMap Nd.cells)):=by
      show W2.ownsRow _ _ _ _ _ _;rw[y,La,LM];exact b
     have ab:=Lv (p.out.trans b2);have d:=Lv o;obtain⟨A2,c2,rfl⟩:=JQ b;obtain⟨A3,c3,rfl⟩:=JQ a.out;unfold PtV.val at hc;clear y c l o b aa b2 x a p;go_wp2_with (at_builtin;refine Aaj ?_)
     refine Stop.to ?_;refine Zc rfl _ (QF rfl d.out) ?_;clear d hc;go_wp2
     go_roundw
     case rel=>exact⟨j+1,_,rfl,by go_num,by omega,t,ab⟩
     case measure=>simp[intOf];omega
    ·obtain rfl:j=k:=by omega
     have ht:ps.take j=ps:=by rw[Hm.out];exact LO
     rw[ht]at a;obtain⟨A3,c3,rfl⟩:=JQ a.out;clear u hj ht;go_wp2
     go_ret
     exact⟨_,rfl,a.out,p.out⟩
end Go.Proofs.YtgnmkiafeplbpaaGreatDoor
namespace Go.Proofs.YtgnmkiafeplbpaaGreatDoor
open Go.ChangeShapes Go.WideShapes Go.RowKit Go.Deep
theorem Km:Tryz.prog.cellsOf 3=1:=by kernel_rfl
end Go.Proofs.YtgnmkiafeplbpaaGreatDoor
namespace Go.Proofs.YtgnmkiafeplbpaaGreatDoor
open Go.RowKit Go.Deep
theorem QW{P:Program}{ops:Array Oper}{S:World->Prop}{Q:Act->Prop}{a:Act}{o:Oper}{rest:List Oper}(hw:Region.wanted o (yielded ops a.tmps)=true)(ty:TypeId)(x:Operand)(ho:o.op=.load ty x)(ad:Addr)(hx:a.eval x=.pointer (some ad))(cs:List Value)(d:TypeDesc)
 (hr:∀W,S W->∀j v,cs[j]? =some v->W.cell? (ad.add j)=some v) (hu:P.underlying ty=some d) (hd:(match d with| .struct _| .array _ _=>true|_=>false)=true) (hi:(P.info? ty).map (·.size)=some cs.length)
 (h:ZO P ops S Q rest (a.put o.dst (.agg cs.toArray))):ZO P ops S Q (o::rest) a:=
 Qe hw (.agg cs.toArray) (λW hW=>by
  simp only[execOp,ho,hx,Instr.loadAt,Instr.sureAddr,Sem.run_bind,Sem.run_pure,Result.andThen_ok,Ke W ad ty cs d (hr W hW) hu hd hi]) h
end Go.Proofs.YtgnmkiafeplbpaaGreatDoor
namespace Go.Proofs.YtgnmkiafeplbpaaGreatDoor
open Go.RowKit
section
variable {P:Program} {ops:Array Oper} {rest:List Oper} {o:Oper} {a:Act} {w:World} {Q:Exit->Act->World->Prop}
theorem Ae0 (S:World->Prop)(hS:S w):∀(n:Nat) (l:List Oper) (a:Act) (w:World),S w->ZO P ops S (λa'=>∀W,S W->wpList P ops Q (l.drop n) a' W) (l.take n) a->wpList P ops Q l a w:=by
 intro n
 induction n with
 |zero=>intro l a w hS h;exact h w hS
 |succ n ih=>
  intro l a w hS h;cases l with
  |nil=>exact h w hS
  |cons o l=>
   obtain⟨v,k,d⟩:=h;refine wpList_step λK c=>?_
   rcases k with⟨i,j⟩|⟨i,rfl⟩
   ·rw[if_pos i];have b:=j w hS;unfold Oper.wp;generalize (execOp a.eval o).run P w=r at b;cases r with
    |ok n' w'=>
     cases n'<;>simp only[YJ]at b<;>simp only[Oper.upon]
     case value u=>obtain⟨rfl,g⟩:=b;exact c _ _ (ih l _ _ g d)
     case skip=>obtain⟨rfl,g⟩:=b;exact c _ _ (ih l _ _ g d)
     case enter f args=>exact b.mono λe w'' ⟨he,hs⟩=>by subst he;exact c _ _ (ih l _ _ hs d)
    |halt x w'=>simp only[YJ]at b
   ·rw[if_neg (by rw[i];simp)];exact c _ _ (ih l _ _ hS d)
theorem VH (S:World->Prop)(n:Nat){l:List Oper}(hS:S w)(h:ZO P ops S (λa'=>∀W,S W->wpList P ops Q (l.drop n) a' W) (l.take n) a):wpList P ops Q l a w:=Ae0 S hS n l a w hS h
theorem AkP (ty:TypeId)(x:Operand)(_:o.op=.load ty x)(h:Stop (wpList P ops Q (o::rest) a w) id):wpList P ops Q (o::rest) a w:=h.out
theorem QY (t:TypeId)(n:Nat)(ps:Array (Nat×Operand))(_:o.op=.buildSlice t n ps)(h:Stop (wpList P ops Q (o::rest) a w) id):wpList P ops Q (o::rest) a w:=h.out
theorem Amh (h:Stop (wpList P ops Q (o::rest) a w) id):wpList P ops Q (o::rest) a w:=h.out
theorem Qw (hw:Region.wanted o (yielded ops a.tmps)=true)(t:TypeId)(n:Nat)(ps:Array (Nat×Operand))(ho:o.op=.buildSlice t n ps)(e:TypeId)(cells:Array Value)
 (hx:∀W,(Instr.buildSlice t n (ps.map λ(i,x)=>(i,a.eval x))).run P W=.ok (.slice (some ⟨W.heap.size,0,none⟩) n n) (W.alloc (.cells cells e)))
 (h:∀g w',w.heap.size<=g->Row w' g e cells->Below g w w'->wpList P ops Q rest (a.put o.dst (.slice (some ⟨g,0,none⟩) n n)) w'):wpList P ops Q (o::rest) a w:=by
 refine BigFrame.wpList_want hw λK b=>?_
 unfold Oper.wp execOp;simp only[ho,Sem.run_bind,hx,Result.andThen_ok,Sem.run_pure];exact b _ _ (h _ _ (Nat.le_refl _) (Row.new _ _ _) ((Below.refl _ _).alloc (Nat.le_refl _) _))
theorem Kl{t e:TypeId}{n sz:Nat}{z:Value}{parts:Array (Nat×Value)}{cells:Array Value}(hu:P.underlying t=some (.slice e))(hi:(P.info? e).map (λi=>(i.zero,i.size))=some (some z,sz))(h1:n*sz<=2 ^ 24)(h2:n*sz≠0)
 (hf:Instr.fill (λi=>some (i*sz,sz)) ((Array.range (n*sz)).map (z.cells[· % z.cells.size]!)) parts.toList=some cells):∀W,(Instr.buildSlice t n parts).run P W=.ok (.slice (some ⟨W.heap.size,0,none⟩) n n) (W.alloc (.cells cells e)):=by
 intro W;cases hq:P.info? e with
 |none=>rw[hq]at hi;cases hi
 |some ie=>
  rw[hq]at hi;simp only[Option.map_some,Option.some.injEq,Prod.mk.injEq]at hi;obtain⟨a,rfl⟩:=hi;exact run_buildSlice W t e n parts cells ie z hu hq a (by omega) h2 hf
end
end Go.Proofs.YtgnmkiafeplbpaaGreatDoor
namespace Go.Proofs.YtgnmkiafeplbpaaGreatDoor
open Go.RowKit Go.Deep
theorem Z6{W:World}{g:Nat}{t:TypeId}{cs:List Value}(h:Row W g t cs.toArray):Rd W (some ⟨g,0,none⟩) cs:=λj u hj=>⟨_,rfl,by
 have:=h.cellv (i:=j) (v:=u) (by simpa using hj)
 unfold Addr.add
 by_cases h0:j=0
 ·subst h0;exact this
 ·rw[if_neg h0];simpa using this⟩
theorem Ajx:(Tryz.prog.info? 23).map (λi=>(i.zero,i.size))=some (some (.slice none 0 0),1):=by kernel_rfl
structure NdsR (l:List Nd)(w w':World)(e:Ending):Prop where
 ex:∃v,e=.returned v/\w'.ownsRow w.heap.size 52 2 v l.length (l.flatMap Nd.cells)/\Below w.heap.size w w'
theorem AfQ (A:Option Addr)(m cp:Nat)(ps:List PtV)(w:World)(hm:m=ps.length)(hr:Rd w A (ps.map PtV.val))(hps:∀q∈ps,q.rd w)(hl:(Q7 ps).length<=1000000)(hml:m<=1000):
 Calls Tryz.prog 282 #[.slice A m cp] w (λe w'=>NdsR (Q7 ps) w w' e):=by
 have b:=Lv (Afr A m cp ps w hm hr hps hl hml);clear hm hr hps hl hml;go_enter Tryz.func282,Tryz.ntmps282
 go_wp2_with fail
 refine b.out.mono ?_;rintro e h ⟨v,rfl,a,c⟩;obtain⟨d,g,rfl⟩:=JQ a;go_wp2
 go_ret
 exact⟨_,rfl,a,c⟩
theorem AjW (A:Option Addr)(cap:Nat)(l:List Nd)(q:Nat)(t:Tr)(w:World)(hat:At l q t)(hr:Rd w A (l.flatMap Nd.cells))(hl:l.length<=1000)(hlc:l.length<=cap)(hcm:cap<=maxLen):
 Calls Tryz.prog 268 #[.slice A l.length cap,.int .i64 (q:Int)] w (λe w'=>NdsR t.flat w w' e):=by
 have he:=Xp A cap l (q:Int) w hr hl;rw[hat.endZ]at he;have af:=hat.le;have ab:=t.size_eq;obtain⟨i,rfl,_⟩:=JG hr hat.root;obtain⟨p,d⟩:=hat.here
 have c:∀W,Rd W (some i) (l.flatMap Nd.cells)->Rd W (some (i.add (q*2))) (t.flat.flatMap Nd.cells):=by
  intro W h j u n
  obtain⟨ae,e,hc⟩:=h.part (q*2) (t.flat.flatMap Nd.cells) (λj u n=>by
   have h1:l=l.take q++(t.flat++p):=by rw[<-d,LC]
   have h2:(l.take q).length=q:=by rw[LH];omega
   rw[h1,LM,LZ (by rw[Adk,h2];omega),Adk,h2,NI,LM,LQ (Lf.1 n).1]
   exact n) (by rw[t.flat_eq];simp[Nd.cells])
  injection e with e;subst e;exact⟨_,rfl,hc j u n⟩
 have a:=Lv c;have He:=Lv he;have Hr:=Lv hr;have g:Hid (t.flat.length=t.size):=rfl;generalize aa:t.size=sz at*;have ac:(cap:Int)<=9223372036854775807:=by unfold maxLen at hcm;omega
 have ag:(q:Int)<=((q+sz:Nat):Int):=by omega
 have ah:((q+sz:Nat):Int)<=(cap:Int):=by omega
 have ai:¬(((q+sz:Nat):Int)<0):=by omega
 have aj:(1:Int)<=(sz:Int):=by omega
 clear he hr c d hat ab aa;go_enter Tryz.func268,Tryz.ntmps268
 go_wp2_with fail
 refine He.out.mono ?_;rintro e w1 ⟨rfl,s⟩;have o:=Lv (Hr.out.go s);have k:=Lv s;clear He Hr s;go_wp2_with (refine QY _ _ _ rfl ?_)
 refine Stop.to ?_;have hv:PtV.val ⟨some (i.add (q*2)),cap-q,t.flat⟩=.slice (some (i.add (q*2))) (q+sz-q) (cap-q):=by unfold PtV.val;rw[g.out,NI]
 refine Qw rfl 354 1 _ rfl 23 #[PtV.val ⟨some (i.add (q*2)),cap-q,t.flat⟩] ?_ ?_
 ·rw[hv];exact Kl Tryz.underlying354 Ajx (by decide) (by decide) (by kernel_rfl)
 intro G w2 z rG y;have b2:=k.out.trans ((y.mono z).mono k.out.size)
 have n:=AfQ (some ⟨G,0,none⟩) 1 1 [⟨some (i.add (q*2)),cap-q,t.flat⟩] w2 rfl (Z6 (cs:=[PtV.val ⟨some (i.add (q*2)),cap-q,t.flat⟩]) rG) (λx hx=>by
  rw[L8.1 hx]
  exact⟨a.out _ (o.out.go (y.mono z)),λe=>by cases e⟩) (by simp[Q7];have:=g.out;omega) (by omega)
 have Hj:=Lv n;have m:=Lv b2;clear n b2 rG y z o k a hv;go_wp2_with fail
 refine Hj.out.mono ?_;rintro e w3 ⟨v,rfl,b,b3⟩;rw[show Q7 [⟨some (i.add (q*2)),cap-q,t.flat⟩]=t.flat by simp[Q7]]at b;obtain⟨A3,c3,rfl⟩:=JQ b;go_wp2
 go_ret
 exact⟨_,rfl,U6 b m.out.size,m.out.trans (b3.mono m.out.size)⟩
theorem AkQ (W:World):(Instr.buildSlice 22 0 #[]).run Tryz.prog W=.ok (.slice (some ⟨W.heap.size,0,none⟩) 0 0) (W.alloc (.cells #[] 3)):=by kernel_rfl
theorem U8{w:World}{base n:Nat}{e:TypeId}{v:Value}{xs:List Value}(h:w.ownsRow base e 1 v n xs):∃A cap,v=.slice A n cap/\Rd w A xs/\n<=cap/\(A=none->cap=0)/\∀ad,A=some ad->base<=ad.block:=by
 obtain⟨A,cap,rfl,d,i,j⟩:=Af7 h;refine⟨A,cap,rfl,d,i,j,λad e=>?_⟩;rcases h.2 with⟨a,_⟩|⟨g,c,b,a,k,_⟩
 ·injection a with e3;rw[e]at e3;cases e3
 ·injection a with e3;rw[e]at e3;injection e3 with e3;rw[e3];exact k
theorem Ab3 (A:Option Addr)(cap:Nat)(l:List Int)(w:World)(hr:Rd w A (Qj l))(hnil:A=none->l=[])(hl:l.length<=100000):
 Calls Tryz.prog 281 #[.slice A l.length cap] w λe w'=>IntsR l w w' e:=by
 rcases A with _|n
 ·have p:=hnil rfl;subst p;have i:=λW:World=>Lib.run_eql_slice_nil (P:=Tryz.prog) W 22 3 none 0 cap 0 0 Tryz.underlying22
  simp only[Option.isNone_none]at i;rw[show([]:List Int).length=0 from rfl];go_enter Tryz.func281,Tryz.ntmps281
  go_wp2_with fail
  go_ret
  exact⟨_,rfl,World.ownsRow_nil _ _ _ _,Below.refl _ _⟩
 ·have k:=Lv hr;have j:=Lv hl;clear hr hl hnil;have i:=λW:World=>Lib.run_eql_slice_nil (P:=Tryz.prog) W 22 3 (some n) l.length cap 0 0 Tryz.underlying22
  simp only[Option.isNone_some]at i;go_enter Tryz.func281,Tryz.ntmps281
  go_wp2_with (refine QY _ _ _ rfl ?_)
  refine Stop.to ?_;refine Zc rfl _ (Ja [] rfl (AkQ w)) ?_;have h:=Row.new w 3 #[];have d:=(Below.refl w.heap.size w).alloc (Nat.le_refl _) (.cells #[] 3);generalize w.alloc (.cells #[] 3)=w1 at h d|-;obtain⟨t,u,b,a,g,_⟩:=Zq (P:=Tryz.prog) 22 3 (.int .i64 0) 1 8 Tryz.underlying22 Ju rfl (by decide) (by decide) (AaZ (B:=w.heap.size) (size:=1) (Nat.le_refl _) h) d.size (k.out.go d) (m:=l.length) (cap:=cap) (by simp[Qj]) (KF l) (by simp) (by have:=j.out;omega);rw[LS,Lu]at a;have o:=QJ d (AaZ (B:=w.heap.size) (size:=1) (Nat.le_refl _) h) g d.size (Nat.le_refl _);have c:=Lv b;clear b g h;go_wp2_with (refine Aaj ?_)
  refine Stop.to ?_;refine Zc rfl _ (QF rfl c.out) ?_;obtain⟨q,s,rfl⟩:=JQ a;go_wp2
  go_ret
  exact⟨_,rfl,a,o⟩
end Go.Proofs.YtgnmkiafeplbpaaGreatDoor
