/- Lemmas for RunnerKillsP. -/
import Derived.Test.YtkoikjnlpifbjaaGreatZk7
import Derived.Test.YtkoikjnlpifbjaaGreatZk4
import Derived.Test.YtkoikjnlpifbjaaGreatZk5
import Derived.Test.YtkoikjnlpifbjaaGreatZk1
import Derived.Test.YtkoikjnlpifbjaaGreatZk2
import Derived.Maps.AppendAt
import Derived.Deep.Cut
import Derived.Lib.AppendZerosOnto
import Derived.Great.BuildSlice
import Derived.Lib.SliceRun
set_option linter.unusedVariables false
set_option linter.unusedSimpArgs false
set_option maxRecDepth 100000
set_option maxHeartbeats 16000000
namespace Go.Proofs.YtkoikjnlpifbjaaGreat
open Go.RowKit Go.Deep
structure Good (p:PgV)(t:Tr):Prop where
 hat:At p.body 0 t
 size:t.size=p.body.length
 vars:Xt p.params p.V
 tag:t.root.tag=20
 kind:ofT p.V t=2
open Classical in
noncomputable def Q7 (p:PgV)(n:Nat)(fuel:Int):Int:=if ∃t,Good p t then(if (n:Int)≠p.params then 18 else if fuel<0\/10000<fuel then 19 else 0)else 23
theorem JV{p:PgV}{n:Nat}{fuel:Int}(h:∀t,¬Good p t):Q7 p n fuel=23:=by unfold Q7;rw[if_neg (λ⟨t,ht⟩=>h t ht)]
theorem JU{p:PgV}{n:Nat}{fuel:Int}{t:Tr}(h:Good p t):Q7 p n fuel=if (n:Int)≠p.params then 18 else if fuel<0\/10000<fuel then 19 else 0:=by unfold Q7;rw[if_pos ⟨t,h⟩]
theorem At.uniq{l:List Nd}{q:Nat}{a b:Tr}(ha:At l q a)(hb:At l q b):a=b:=by
 have o:∀n,(∀(a b:Tr) (r s:List Nd),a.size<=n->a.fits->b.fits->a.flat++r=b.flat++s->a=b)/\(∀(c g:List Tr) (r s:List Nd),(QM c).length<=n->c.length=g.length->(∀t∈c,t.fits)->(∀t∈g,t.fits)->QM c++r=QM g++s->c=g):=by
  intro n
  induction n with
  |zero=>
   refine⟨λa b r s h=>by have:=a.size_eq;omega,λc g r s h d _ _ _=>?_⟩;cases c with
   |nil=>exact(Lt (by simpa using d.symm)).symm
   |cons t ts=>rw[QM,Le]at h;have:=t.size_eq;have aa:t.size=t.flat.length:=rfl;omega
  |succ n ih=>
   have one:∀(a b:Tr) (r s:List Nd),a.size<=n+1->a.fits->b.fits->a.flat++r=b.flat++s->a=b:=by
    rintro⟨x,p⟩ ⟨y,w⟩ r s h i j e;have v:=e;rw[Tr.flat_eq,Tr.flat_eq,Ll,Ll]at v;injection v with e1 e2;simp only[Tr.root,Tr.kids]at e1 e2;subst e1
    have d:p.length=w.length:=by
     have z:=i.arity;have h2:=j.arity;simp only[Tr.root,Tr.kids]at z h2;omega
    have h4:=(Tr.node x p).size_eq;simp only[Tr.kids]at h4;rw[ih.2 p w r s (by omega) d i.kid j.kid e2]
   refine⟨one,λc g=>?_⟩
   induction c generalizing g with
   |nil=>intro r s _ d _ _ _;exact(Lt (by simpa using d.symm)).symm
   |cons t ts iht=>
    intro r s h d i j e;cases g with
    |nil=>simp at d
    |cons u us=>
     rw[QM,QM,Ly,Ly]at e;rw[QM,Le]at h;have ht:t=u:=one t u _ _ (by unfold Tr.size;omega) (i t (by simp)) (j u (by simp)) e;subst ht;rw[iht us r s (by omega) (by simpa using d) (λk m=>i k (by simp[m])) (λk m=>j k (by simp[m])) (List.append_cancel_left e)]
 obtain⟨r,hr⟩:=ha.here;obtain⟨s,hs⟩:=hb.here;exact(o a.size).1 a b r s (Nat.le_refl _) ha.fits hb.fits (by rw[<-hr,hs])
theorem KJ{p:PgV}{t:Tr}(hat:At p.body 0 t)(h:¬(t.root.tag=20/\ofT p.V t=2)):∀t',¬Good p t':=λt' g=>by
 have:=hat.uniq g.hat;subst this;exact h ⟨g.tag,g.kind⟩
theorem AaO{p:PgV}(h:JB p.params p.V≠0):∀t',¬Good p t':=λt' g=>h (by unfold JB;rw[if_pos g.vars])
theorem Ab7{p:PgV}(h:endZ p.body 0≠(p.body.length:Int)):∀t',¬Good p t':=λt' g=>h (by
 have:=g.hat.endZ
 rw[g.size,LG]at this
 exact this)
theorem Ab8{p:PgV}(h:p.body.length=0):∀t',¬Good p t':=λt' g=>by have:=g.hat.lt;omega
theorem YM (a:Int)(V:List Int):JB a V=0/\Xt a V\/JB a V=14:=by
 unfold JB;by_cases h:Xt a V
 ·rw[if_pos h];exact .inl ⟨rfl,h⟩
 ·rw[if_neg h];exact .inr rfl
theorem Yi (p:PgV)(aa:Option Addr)(acap n:Nat)(fuel:Int)(hbl:p.body.length<=1000)(hn:n<=1000)(w:World)(hok:p.ok w):Calls Tryz.prog 96 #[.agg p.cells,.slice aa n acap,.int .i64 fuel] w λe w'=>e=.returned (.int .i64 (Q7 p n fuel))/\Below w.heap.size w w':=by
 have ab:=Lh hbl;have ac:=Lh hok;clear hbl hok;go_enter Tryz.func96,Tryz.ntmps96
 go_wp2_with (refine Qq _ _ rfl ?_)
 refine Stop.to ?_;refine Qe rfl 25 _ rfl p.cells rfl ?_;intro G w1 hG r1 b1;have b1:=(Below.refl w.heap.size w).trans (b1.mono hG);obtain⟨S,j⟩:∃S,S=(λW=>Row W G 25 p.cells/\p.ok W/\Below w.heap.size w W):=⟨_,rfl⟩;have av:St S:=by rw[j];infer_instance
 have s0:∀W,S W->Row W G 25 p.cells:=by rw[j];exact λW h=>h.1
 have S1:Hid (∀W,S W->p.ok W):=by show ∀W,_;rw[j];exact λW h=>h.2.1
 have s:Hid (∀W,S W->Below w.heap.size w W):=by show ∀W,_;rw[j];exact λW h=>h.2.2
 have hS:S w1:=by rw[j];exact⟨r1,ac.out.go b1,b1⟩
 have u:=Lh s0;clear j r1 b1 hG ac s0;go_wp2_with fail
 refine JC S (by kernel_rfl) (by kernel_rfl) (St.drew hS) ?_;clear hS;(refine Zp rfl 25 _ rfl (G) rfl 25 _ _ u.out Tryz.underlying25 rfl (by kernel_rfl) ?_;simp only[Act.put,Qa,Qb,Qc]);(refine Q8 rfl 61 _ (λW=>by(go_simp;try rfl)) _ (λW d=>Aeh p W (S1.out _ d)) ?_;simp only[Act.put,Qa,Qb,Qc])
 have aj:=YM p.params p.V;generalize x:JB p.params p.V=ve at aj;have am:=Lh x;clear x;rcases aj with⟨rfl,y⟩|rfl;rotate_left
 ·have g:=Lh (JV (n:=n) (fuel:=fuel) (AaO (p:=p) (by rw[am.out];omega)))
  iterate 2 (refine Qg rfl ?_ (λW d=>?_) ?_;rotate_left;(focus(go_simp;exact rfl));simp only[Act.put,Qa,Qb,Qc])
  iterate 4 (refine Ve rfl ?_;simp only[Act.put,Qa,Qb,Qc])
  iterate 2 (refine Qg rfl ?_ (λW d=>?_) ?_;rotate_left;(focus(go_simp;exact rfl));simp only[Act.put,Qa,Qb,Qc])
  iterate 7 (refine Ve rfl ?_;simp only[Act.put,Qa,Qb,Qc])
  iterate 2 (refine Qg rfl ?_ (λW d=>?_) ?_;rotate_left;(focus(go_simp;exact rfl));simp only[Act.put,Qa,Qb,Qc])
  refine Q4 λW d=>?_
  go_wp2
  go_ret
  exact⟨QS g.out,s.out _ d⟩
 have ad:=Lh y;clear y;by_cases hl:p.body.length=0
 ·have g:=Lh (JV (n:=n) (fuel:=fuel) (Ab8 hl));have ap:((p.body.length:Int)==0)=true:=by simp[hl]
  clear hl
  iterate 3 (refine Qg rfl ?_ (λW d=>?_) ?_;rotate_left;(focus(go_simp;exact rfl));simp only[Act.put,Qa,Qb,Qc])
  (refine Qg rfl ?_ (λW d=>?_) ?_;rotate_left;(focus(have c:=(u.out _ d).cellv (i:=2) (v:=.slice p.ba p.body.length p.bcap) rfl;go_simp;exact rfl));simp only[Act.put,Qa,Qb,Qc])
  iterate 4 (refine Qg rfl ?_ (λW d=>?_) ?_;rotate_left;(focus(go_simp;exact rfl));simp only[Act.put,Qa,Qb,Qc])
  iterate 7 (refine Ve rfl ?_;simp only[Act.put,Qa,Qb,Qc])
  iterate 2 (refine Qg rfl ?_ (λW d=>?_) ?_;rotate_left;(focus(go_simp;exact rfl));simp only[Act.put,Qa,Qb,Qc])
  refine Q4 λW d=>?_
  go_wp2
  go_ret
  exact⟨QS g.out,s.out _ d⟩
 have ap:((p.body.length:Int)==0)=false:=by simpa using hl
 have Hl:=Lh hl;clear hl
 iterate 3 (refine Qg rfl ?_ (λW d=>?_) ?_;rotate_left;(focus(go_simp;exact rfl));simp only[Act.put,Qa,Qb,Qc])
 (refine Qg rfl ?_ (λW d=>?_) ?_;rotate_left;(focus(have c:=(u.out _ d).cellv (i:=2) (v:=.slice p.ba p.body.length p.bcap) rfl;go_simp;exact rfl));simp only[Act.put,Qa,Qb,Qc])
 iterate 5 (refine Qg rfl ?_ (λW d=>?_) ?_;rotate_left;(focus(go_simp;exact rfl));simp only[Act.put,Qa,Qb,Qc])
 (refine Qg rfl ?_ (λW d=>?_) ?_;rotate_left;(focus(have c:=(u.out _ d).cellv (i:=2) (v:=.slice p.ba p.body.length p.bcap) rfl;go_simp;exact rfl));simp only[Act.put,Qa,Qb,Qc]);(refine Q8 rfl 102 _ (λW=>by(go_simp;try rfl)) _ (λW d=>JH p.ba p.bcap p.body 0 W (S1.out _ d).brd ab.out) ?_;simp only[Act.put,Qa,Qb,Qc])
 iterate 1 (refine Qg rfl ?_ (λW d=>?_) ?_;rotate_left;(focus(go_simp;exact rfl));simp only[Act.put,Qa,Qb,Qc])
 (refine Qg rfl ?_ (λW d=>?_) ?_;rotate_left;(focus(have c:=(u.out _ d).cellv (i:=2) (v:=.slice p.ba p.body.length p.bcap) rfl;go_simp;exact rfl));simp only[Act.put,Qa,Qb,Qc])
 iterate 1 (refine Qg rfl ?_ (λW d=>?_) ?_;rotate_left;(focus(go_simp;exact rfl));simp only[Act.put,Qa,Qb,Qc])
 by_cases z:endZ p.body 0=(p.body.length:Int);rotate_left
 ·have g:=Lh (JV (n:=n) (fuel:=fuel) (Ab7 z));have an:(endZ p.body 0 != (p.body.length:Int))=true:=by simpa using z
  clear z
  iterate 3 (refine Qg rfl ?_ (λW d=>?_) ?_;rotate_left;(focus(go_simp;exact rfl));simp only[Act.put,Qa,Qb,Qc])
  refine Q4 λW d=>?_
  go_wp2
  go_ret
  exact⟨QS g.out,s.out _ d⟩
 have an:(endZ p.body 0 != (p.body.length:Int))=false:=by simp[z]
 have He:=Lh z;clear z
 iterate 3 (refine Qg rfl ?_ (λW d=>?_) ?_;rotate_left;(focus(go_simp;exact rfl));simp only[Act.put,Qa,Qb,Qc])
 refine Q4 λW d=>?_
 obtain⟨t,o,_⟩:=Ue (l:=p.body) (a:=0) (by rw[He.out];omega);have o:At p.body 0 t:=o;have ai:t.size=p.body.length:=by have h1:=o.endZ;have h2:=He.out;simp only[LG]at h1;have h3:endZ p.body 0=(t.size:Int):=h1;omega
 have q:=Lh o;have al:=Lh ai;have c2:=(u.out _ d).cellv (i:=2) (v:=.slice p.ba p.body.length p.bcap) rfl;obtain⟨bd,ae,ag⟩:=J6 (S1.out _ d).brd (k:=0) o.root;have af:=ag 0 (.int .i64 t.root.tag) rfl;rw[show(bd.add (0*2)).add 0=bd by rw[Xf];simp[Addr.add]]at af;rw[ae]at c2;have aq:(0:Int)<(p.body.length:Int):=by have:=Hl.out;omega
 have ak:0<p.body.length:=by omega
 clear ag ae o ai;by_cases ht:t.root.tag=20;rotate_left
 ·have g:=Lh (JV (n:=n) (fuel:=fuel) (KJ q.out (λh=>ht h.1)));have au:(t.root.tag != 20)=true:=by simpa using ht
  clear ht;go_wp2
  go_ret
  exact⟨QS g.out,s.out _ d⟩
 have au:(t.root.tag != 20)=false:=by simp[ht]
 have Ht:=Lh ht;clear ht;go_wp2_with (refine X5 rfl 25 _ rfl G rfl 25 p.cells (0,0) _ (u.out _ d) Tryz.underlying25 rfl (by kernel_rfl) ?_)
 refine(Adt p ab.out t 0 q.out W (S1.out _ d)).mono ?_;rintro e W2 ⟨rfl,b2⟩;have m:=av.go d b2;clear c2 af b2 d;by_cases hk:ofT p.V t=2;rotate_left
 ·have g:=Lh (JV (n:=n) (fuel:=fuel) (KJ q.out (λh=>hk h.2)));have ao:(ofT p.V t != 2)=true:=by simpa using hk
  clear hk;go_wp2
  go_ret
  exact⟨QS g.out,s.out _ m⟩
 have ao:(ofT p.V t != 2)=false:=by simp[hk]
 have g:=Lh (JU (n:=n) (fuel:=fuel) (⟨q.out,al.out,ad.out,Ht.out,hk⟩:Good p t));have c0:=(u.out _ m).cellv (i:=0) (v:=.int .i64 p.params) rfl;clear hk;by_cases hp:(n:Int)=p.params;rotate_left
 ·have ar:((n:Int) != p.params)=true:=by simpa using hp
  have Hp:=Lh hp;clear hp;go_wp2
  go_ret
  exact⟨QS (by rw[g.out,if_pos Hp.out]),s.out _ m⟩
 have ar:((n:Int) != p.params)=false:=by simp[hp]
 have Hp:=Lh hp;clear hp;by_cases hf:fuel<0
 ·go_wp2
  go_ret
  exact⟨QS (by rw[g.out,if_neg (λh=>h Hp.out),if_pos (.inl hf)]),s.out _ m⟩
 have aw:0<=fuel:=by omega
 by_cases ah:10000<fuel
 ·clear hf;go_wp2
  go_ret
  exact⟨QS (by rw[g.out,if_neg (λh=>h Hp.out),if_pos (.inr ah)]),s.out _ m⟩
 have ax:fuel<=10000:=by omega
 clear hf ah;go_wp2
 go_ret
 exact⟨QS (by rw[g.out,if_neg (λh=>h Hp.out),if_neg (by omega)]),s.out _ m⟩
end Go.Proofs.YtkoikjnlpifbjaaGreat
namespace Go.Proofs.YtkoikjnlpifbjaaGreat
open Go.RowKit
structure Mt where
 d:Dl
 verdict:Int
 test:Int
 kind:Int
 value:Int
 digest:List UInt8
structure Sc where
 alive:Int
 killed:Int
 timeout:Int
def ZM (l:List Mt)(v:Int):Int:=((l.filter λm=>m.verdict==v).length:Int)
def QF (l:List Mt):Sc:=⟨ZM l 0,ZM l 1,ZM l 2⟩
def Z3 (params:Int)(tests:List (List Int))(fuel:Int):Int:=
 if tests.length<1\/20<tests.length then 18 else if ∀l∈tests,(l.length:Int)=params then(if fuel<1\/10000<fuel then 19 else 0)else 18
def Xo (m:Mt):Bool:=
 if m.verdict=0 then decide (m.test= -1/\m.kind=0/\m.value=0/\m.digest=[])
 else if m.verdict=1 then decide ((0<=m.test/\m.test<=19/\m.digest.length=32)/\0<=m.kind/\m.kind<=3/\(m.kind=0\/m.value=0))
 else if m.verdict=2 then decide ((0<=m.test/\m.test<=19/\m.digest.length=32)/\m.kind=4/\m.value=0)else false
def AiP:List Mt->Prop
 |[]=>True
 |[_]=>True
 |a::b::l=>KU a.d b.d<0/\AiP (b::l)
end Go.Proofs.YtkoikjnlpifbjaaGreat
namespace Go.Proofs.YtkoikjnlpifbjaaGreat
open Go.RowKit Go.Deep
theorem Yk{W':World}{B g size:Nat}{e:TypeId}(hB:B<=g)(h:Row W' g e #[]):W'.ownsRow B e size (.slice (some ⟨g,0,none⟩) 0 0) 0 []:=
 ⟨by simp,.inr ⟨g,0,#[],rfl,hB,h,Nat.le_refl _,Nat.zero_le _,by simp,by simp⟩⟩
theorem Q0{P:Program}{o:Oper}{w w1:World}{ρ:Operand->Value}{t:TypeId}{n:Nat}(ps:List (Nat×Operand))(ho:o.op=.buildSlice t n ps.toArray){v:Value}(hv:(Instr.buildSlice t n (ps.map λ(i,x)=>(i,ρ x)).toArray).run P w=.ok v w1):(execOp ρ o).run P w=.ok (.value v) w1:=by
 simp only[execOp,ho,Sem.run_bind,Nr,hv,Result.andThen_ok,Sem.run_pure]
theorem QE{P:Program}{o:Oper}{w w1:World}{ρ:Operand->Value}{s x:Operand}{t:TypeId}(ho:o.op=.call { callee:=.builtin .append,args:=#[s,x],argTypes:=#[t,t] }){v:Value}(hv:(Builtin.append_ #[t,t] o.type #[ρ s,ρ x]).run P w=.ok v w1):(execOp ρ o).run P w=.ok (.value v) w1:=by
 unfold execOp;simp only[ho,resolve,invoke,builtin,Sem.run_bind,Sem.run_pure,Result.andThen_ok,Nr,LP,Nv,hv]
theorem Aal{P:Program}{w:World}{base size n c:Nat}{t ty e:TypeId}{i:TypeInfo}{v:Value}{xs:List Value}(ht:P.underlying t=some (.slice e))(hi:P.info? e=some i)(hown:w.ownsRow base e size v n xs):(Builtin.append_ #[t,t] ty #[v,.slice none 0 c]).run P w=.ok v w:=by
 rcases hown.2 with⟨rfl,rfl⟩|⟨g,h,j,rfl,_,_,d,_⟩
 ·simp[Builtin.append_,run_underlying ht,sizeOf,typeInfo,hi,Builtin.lenOf,Builtin.firstCells]
 ·simp[Builtin.append_,run_underlying ht,sizeOf,typeInfo,hi,Builtin.lenOf,Builtin.firstCells,d,storeCells]
theorem ZA{P:Program}(t e:TypeId)(z:Value)(size bytes:Nat)(ht:P.underlying t=some (.slice e))(hinf:(P.info? e).map (λi=>(i.zero,i.size,i.bytes))=some (some z,size,bytes))(hzs:z.cells.size=size)(hsz:0<size)(hby:bytes<=100)
 {W:World} {B n m cap:Nat} {v:Value} {xs cs:List Value} {A:Option Addr} (hown:W.ownsRow B e size v n xs) (hB:B<=W.heap.size) (hr:Rd W A cs) (hlen:cs.length=m*size) (h1:∀u∈cs,u.oneCell'=true) (hA:A=none->m=0) (hb:n+m<=1000000):
 ∃v' W',(Builtin.append_ #[t,t] t #[v,.slice A m cap]).run P W=.ok v' W'/\W'.ownsRow B e size v' (n+m) (xs++cs)/\W.grownBy W' v.ownBlock/\(v'.ownBlock=v.ownBlock\/v'.ownBlock=some W.heap.size):=by
 obtain⟨i0,c,d,g,h⟩:=info_parts hinf;rcases A with _|k
 ·have o:=hA rfl;subst o;have y:cs=[]:=Lt (by simpa using hlen);subst y;exact⟨v,W,Aal ht c hown,by simpa using hown,World.grownBy.refl _ _,.inl rfl⟩
 ·obtain⟨v',W',h1,p,q,_,s⟩:=run_append_own_at (P:=P) W B t t e i0 z size bytes ht c d g h hzs hsz v n xs hown k m cap cs hlen
    (λj u x=>by obtain⟨l,e,w⟩:=hr j u x;injection e with e;subst e;exact w) h1 (by unfold maxLen;omega) (by have:=Nat.mul_le_mul hb hby;omega) hB
  exact⟨v',W',h1,p,q,s⟩
theorem VX:(Tryz.prog.info? 65).map (λi=>(i.zero,i.size,i.bytes))=some (some (.agg #[.int .i64 0,.int .i64 0]),2,16):=by kernel_rfl
theorem XR{ops:Array Oper}{rest:List Oper}{o:Oper}{a:Act}{w:World}{Q:Exit->Act->World->Prop}(h:Stop (wpList Tryz.prog ops Q (o::rest) a w) id):wpList Tryz.prog ops Q (o::rest) a w:=h.out
theorem Zm{P:Program}{ops:Array Oper}{rest:List Oper}{o:Oper}{a:Act}{w w1:World}{Q:Exit->Act->World->Prop}(hgd:o.guard=none)(v:Value)(hv:(execOp a.eval o).run P w=.ok (.value v) w1)(h:wpList P ops Q rest (a.put o.dst v) w1):wpList P ops Q (o::rest) a w:=
 wpList_plain hgd λ_ hK=>by unfold Oper.wp;rw[hv];exact hK _ _ h
theorem Vq{P:Program}{o:Oper}{w w1:World}{ρ:Operand->Value}{s x:Operand}{t u:TypeId}(ho:o.op=.call { callee:=.builtin .append,args:=#[s,x],argTypes:=#[t,u] }){v:Value}(hv:(Builtin.append_ #[t,u] o.type #[ρ s,ρ x]).run P w=.ok v w1):(execOp ρ o).run P w=.ok (.value v) w1:=by
 unfold execOp;simp only[ho,resolve,invoke,builtin,Sem.run_bind,Sem.run_pure,Result.andThen_ok,Nr,LP,Nv,hv]
theorem AgM (n:Nat)(hn:n<=1000000)(w:World):Calls Tryz.prog 218 #[.slice none 0 0,.int .i64 (n:Int)] w λe w'=>∃A cap,e=.returned (.slice A 0 cap)/\w'.ownsRow w.heap.size 65 2 (.slice A 0 cap) 0 []/\Below w.heap.size w w':=by
 have v:¬((n:Int)<0):=by omega
 have x:wrap64 ((0:Int)-0)=0:=by unfold wrap64;omega
 have y:wrap64 ((n:Int)-0)=(n:Int):=by unfold wrap64;omega
 have z:IntKind.i64.wrap (n:Int)=(n:Int):=IntWalk.i64_in _ (by omega);by_cases s:n=0
 ·subst s;go_enter Tryz.func218,Tryz.ntmps218
  go_wp2
  go_ret
  exact⟨_,_,rfl,World.ownsRow_nil _ _ _ _,Below.refl _ _⟩
 ·have hp:(0:Int)<(n:Int):=by omega
  obtain⟨p,k,l,m,h⟩:=info_parts VX;have d:(Builtin.firstCells p.size 0 (.slice none 0 0)).run Tryz.prog w.drew=.ok ([]:List Value).toArray w.drew:=run_firstCells_none w.drew p.size 0 0 0
  have c:=λu=>Lib.run_append_grow_zeros (P:=Tryz.prog) w 23 3 u 65 p _ .i64 .i64 Tryz.underlying23 Tryz.underlying3 k l none 0 0 [] d n (by omega) (by rw[m];omega) (by omega) (by omega) (by rw[h];omega) (growslice_fits (by omega) (by rw[h];omega))
  simp only[LG]at c;have o:=grownCap_ge w n 0 65;have g:=grownCap_le_maxLen w n 0 65 (by unfold maxLen;omega);generalize grownCap w n 0 65=G at c o g
  have j:((([]:List Value).toArray++Builtin.zeroCells (Value.agg #[.int .i64 0,.int .i64 0]).cells n++Builtin.zeroCells (Value.agg #[.int .i64 0,.int .i64 0]).cells (G-n)):Array Value).size=G*2:=by
   simp only[Array.size_append,size_zeroCells];show 0+n*2+(G-n)*2=G*2;omega
  generalize (([]:List Value).toArray++Builtin.zeroCells (Value.agg #[.int .i64 0,.int .i64 0]).cells n++Builtin.zeroCells (Value.agg #[.int .i64 0,.int .i64 0]).cells (G-n))=cs at c j;have i:=Lh c;have t:G<=9223372036854775807:=by unfold maxLen at g;omega
  clear c k l m h d s;go_enter Tryz.func218,Tryz.ntmps218
  go_wp2_with (at_builtin;refine XR ?_)
  refine Stop.to ?_;refine Zm rfl _ (Vq rfl (i.out _)) ?_;have rn:Row (w.drew.alloc (.cells cs 65)) w.heap.size 65 cs:=Row.new w.drew _ _;have q:Below w.heap.size w (w.drew.alloc (.cells cs 65)):=(⟨rfl,rfl,rfl,Nat.le_refl _,λ_ _=>rfl⟩:Below w.heap.size w w.drew).trans ((Below.refl _ w.drew).alloc (Nat.le_refl _) _);generalize w.drew.alloc (.cells cs 65)=w1 at rn q|-;clear i;go_wp2
  go_ret
  exact⟨_,_,rfl,⟨by simp,.inr ⟨w.heap.size,G,cs,rfl,Nat.le_refl _,rn,Nat.zero_le _,g,j,by simp⟩⟩,q⟩
structure PtV where
 addr:Option Addr
 cap:Nat
 body:List Nd
def PtV.val (q:PtV):Value:=.slice q.addr q.body.length q.cap
def PtV.rd (q:PtV)(w:World):Prop:=Rd w q.addr (q.body.flatMap Nd.cells)/\(q.addr=none->q.body=[])
def Zh (ps:List PtV):List Nd:=ps.flatMap PtV.body
theorem PtV.rd.go{q:PtV}{w w':World}(h:q.rd w)(b:Below w.heap.size w w'):q.rd w':=⟨h.1.go b,h.2⟩
theorem Z7 (l:List Nd):(l.flatMap Nd.cells).length=l.length*2:=by
 induction l with
 |nil=>rfl
 |cons a l ih=>simp only[L8,Le,ih,Lc];simp[Nd.cells];omega
theorem Eb (l:List Nd):∀u∈l.flatMap Nd.cells,u.oneCell'=true:=by
 intro u c;simp only[ND,Nd.cells,Ls,Lw,or_false]at c;obtain⟨a,_,rfl|rfl⟩:=c<;>rfl
theorem Aev{W:World}{B n m cap:Nat}{v:Value}{xs:List Value}{A:Option Addr}{l:List Nd}(hown:W.ownsRow B 65 2 v n xs)(hB:B<=W.heap.size)(hr:Rd W A (l.flatMap Nd.cells))(hm:m=l.length)(hA:A=none->m=0)(hb:n+m<=1000000):
 ∃v' W',(Builtin.append_ #[23,23] 23 #[v,.slice A m cap]).run Tryz.prog W=.ok v' W'/\W'.ownsRow B 65 2 v' (n+m) (xs++l.flatMap Nd.cells)/\W.grownBy W' v.ownBlock/\(v'.ownBlock=v.ownBlock\/v'.ownBlock=some W.heap.size):=
 ZA 23 65 _ 2 16 Tryz.underlying23 VX rfl (by decide) (by decide) hown hB hr (by rw[Z7,hm]) (Eb l) hA hb
theorem Zq{w:World}{base n size:Nat}{e:TypeId}{v:Value}{xs:List Value}(h:w.ownsRow base e size v n xs):∃A cap,v=.slice A n cap:=by
 rcases h.2 with⟨rfl,d⟩|⟨g,cap,c,rfl,_⟩
 ·subst d;exact⟨_,_,rfl⟩
 ·exact⟨_,_,rfl⟩
theorem VI{ps:List PtV}{k:Nat}{q:PtV}(h:ps[k]? =some q):Zh (ps.take (k+1))=Zh (ps.take k)++q.body:=by
 unfold Zh;rw[L9,h];simp
theorem AbC (ps:List PtV)(k:Nat):(Zh (ps.take k)).length<=(Zh ps).length:=by
 have:Zh ps=Zh (ps.take k)++Zh (ps.drop k):=by
  unfold Zh;rw[<-L6,LF]
 rw[this];simp
theorem AeN (A:Option Addr)(m cp:Nat)(ps:List PtV)(w:World)(hm:m=ps.length)(hr:Rd w A (ps.map PtV.val))(hps:∀q∈ps,q.rd w)(hl:(Zh ps).length<=1000000)(hml:m<=1000):
 Calls Tryz.prog 197 #[.slice A m cp] w λe w'=>∃v,e=.returned v/\w'.ownsRow w.heap.size 65 2 v (Zh ps).length ((Zh ps).flatMap Nd.cells)/\Below w.heap.size w w':=by
 have Hr:=Lh hr;have ae:=Lh hps;have Hm:=Lh hm;have af:=hl;clear hr hps hm;go_enter Tryz.func197,Tryz.ntmps197
 go_wp2
 go_loopw [3,11] (λs i wr=>∃k:Nat,i=.int .i64 (k:Int)/\s=.int .i64 ((Zh (ps.take k)).length:Int)/\k<=m/\w=wr) (λ_ i _=>m-(intOf i).toNat)
 case atStart=>exact⟨0,rfl,by simp[Zh],Nat.zero_le _,rfl⟩
 case round=>
  obtain⟨k,rfl,rfl,hk,rfl⟩:=hrel;by_cases y:k<m
  ·obtain⟨q,p⟩:∃q,ps[k]? =some q:=⟨_,Lb (by have:=Hm.out;omega)⟩;obtain⟨ad,rfl,hc⟩:=Hr.out k q.val (by simp[p]);have aj:(k:Int)<(m:Int):=by omega
   have hs:=VI p;have g:=AbC ps (k+1);rw[hs,Le]at g;have e1:IntKind.i64.wrap (((Zh (ps.take k)).length:Int)+(q.body.length:Int))=((Zh (ps.take k)).length:Int)+(q.body.length:Int):=IntWalk.i64_in _ (by omega);have e2:¬(((Zh (ps.take k)).length:Int)+(q.body.length:Int)<0):=by omega
   have ah:IntKind.i64.wrap ((k:Int)+1)=(k:Int)+1:=IntWalk.i64_in _ (by omega);have Hs:Hid ((((Zh (ps.take k)).length:Int)+(q.body.length:Int))=((Zh (ps.take (k+1))).length:Int)):=by show _=_;rw[hs,Le];omega
   unfold PtV.val at hc;clear hs g p;generalize (Zh (ps.take k)).length=sk at*;go_wp2
   go_roundw
   case rel=>exact⟨k+1,by go_num,by rw[<-Hs.out],by omega,by trivial⟩
   case measure=>simp[intOf];omega
  ·obtain rfl:k=m:=by omega
   have ht:ps.take k=ps:=by rw[Hm.out];exact LT
   rw[ht];obtain⟨n,hn⟩:∃n,n=(Zh ps).length:=⟨_,rfl⟩;have Hn:=Lh hn;rw[<-hn]at hl|-;clear y hk ht hn af;go_wp2_with fail
   refine(AgM n hl w).mono ?_;rintro e w1 ⟨A1,c1,rfl,o,b1⟩;have c:=Lh o;have aa:=Lh b1;clear o b1;go_wp2
   go_loopw [6,27] (λs i W=>∃(k':Nat) (v:Value),s=v/\i=.int .i64 (k':Int)/\k'<=k/\Hid (W.ownsRow w.heap.size 65 2 v (Zh (ps.take k')).length ((Zh (ps.take k')).flatMap Nd.cells))/\Hid (Below w.heap.size w W)) (λ_ i _=>k-(intOf i).toNat)
   case atStart=>exact⟨0,_,rfl,rfl,Nat.zero_le _,by simpa[Zh]using c,aa⟩
   case round=>
    clear c aa;obtain⟨j,v,rfl,rfl,hj,c,u⟩:=hrel;by_cases y:j<k
    ·obtain⟨q,p⟩:∃q,ps[j]? =some q:=⟨_,Lb (by have:=Hm.out;omega)⟩;obtain⟨ad,rfl,hc⟩:=(Hr.out.go u.out) j q.val (by simp[p]);have z:=(ae.out q (Lf p)).go u.out;have ai:(j:Int)<(k:Int):=by omega
     have hs:=VI p;have g:=AbC ps (j+1);rw[hs,Le, <-Hn.out]at g;have ag:IntKind.i64.wrap ((j:Int)+1)=(j:Int)+1:=IntWalk.i64_in _ (by omega);obtain⟨v2,W2,t,d,ab,_⟩:=Aev (cap:=q.cap) c.out u.out.size z.1 (rfl:q.body.length=q.body.length) (λh=>by rw[z.2 h];rfl) (by omega);have b2:=QL (Below.refl w.heap.size _) c.out ab u.out.size (Nat.le_refl _)
     have x:Hid (W2.ownsRow w.heap.size 65 2 v2 (Zh (ps.take (j+1))).length ((Zh (ps.take (j+1))).flatMap Nd.cells)):=by
      show W2.ownsRow _ _ _ _ _ _;rw[hs,Le,L6];exact d
     have ac:=Lh (u.out.trans b2);have l:=Lh t;obtain⟨A2,c2,rfl⟩:=Zq d;obtain⟨A3,c3,rfl⟩:=Zq c.out;unfold PtV.val at hc;clear hs g p t d ab b2 z c u;go_wp2_with (at_builtin;refine XR ?_)
     refine Stop.to ?_;refine Zm rfl _ (QE rfl l.out) ?_;clear l hc;go_wp2
     go_roundw
     case rel=>exact⟨j+1,_,rfl,by go_num,by omega,x,ac⟩
     case measure=>simp[intOf];omega
    ·obtain rfl:j=k:=by omega
     have ht:ps.take j=ps:=by rw[Hm.out];exact LT
     rw[ht]at c;obtain⟨A3,c3,rfl⟩:=Zq c.out;clear y hj ht;go_wp2
     go_ret
     exact⟨_,rfl,c.out,u.out⟩
theorem EI:∀(l:List EvV) (k:Nat) (e:EvV),l[k]? =some e->∀j u,e.cells[j]? =some u->(l.flatMap EvV.cells)[k*3+j]? =some u
 |[],k,e,h,_,_,_=>by simp at h
 |a::l,0,e,h,j,u,hj=>by
  simp at h;subst h
  have hl:j<a.cells.length:=(La.1 hj).1
  simp only[L8]
  rw[L3 (by omega)]
  simpa using hj
 |a::l,k+1,e,h,j,u,hj=>by
  simp only[L8]
  rw[Lx (by simp[EvV.cells];omega)]
  have:=EI l k e (by simpa using h) j u hj
  rw[<-this];congr 1;simp[EvV.cells];omega
theorem Yf{P:Program}{ops:Array Oper}{S:World->Prop}{Q:Act->Prop}{a:Act}{o:Oper}{rest:List Oper}(hw:Region.wanted o (yielded ops a.tmps)=true)(ty:TypeId)(x:Operand)(ho:o.op=.load ty x)(ad:Addr)(hx:a.eval x=.pointer (some ad))(cs:List Value)(d:TypeDesc)
 (hr:∀W,S W->∀j v,cs[j]? =some v->W.cell? (ad.add j)=some v) (hu:P.underlying ty=some d) (hd:(match d with| .struct _| .array _ _=>true|_=>false)=true) (hi:(P.info? ty).map (·.size)=some cs.length)
 (h:Z4 P ops S Q rest (a.put o.dst (.agg cs.toArray))):Z4 P ops S Q (o::rest) a:=
 Qg hw (.agg cs.toArray) (λW hW=>by
  simp only[execOp,ho,hx,Instr.loadAt,Instr.sureAddr,Sem.run_bind,Sem.run_pure,Result.andThen_ok,Kj W ad ty cs d (hr W hW) hu hd hi]) h
theorem Ki{P:Program}{o:Oper}{w:World}{ρ:Operand->Value}{b:BinOp}{t t':TypeId}{x y:Operand}(ho:o.op=.binOp b t x y t')(v:Value)(hg:(eqGuard b t x y (ρ x) (ρ y)).run P w=.ok () w)(hv:(binOp b t (ρ x) (ρ y)).run P w=.ok v w):(execOp ρ o).run P w=.ok (.value v) w:=by
 simp only[execOp,ho,Sem.run_bind,hg,hv,Result.andThen_ok,Sem.run_pure]
end Go.Proofs.YtkoikjnlpifbjaaGreat
namespace Go.Proofs.YtkoikjnlpifbjaaGreat
open Go.RowKit
section
variable {P:Program} {ops:Array Oper} {rest:List Oper} {o:Oper} {a:Act} {w:World} {Q:Exit->Act->World->Prop}
theorem Aem (S:World->Prop)(hS:S w):∀(n:Nat) (l:List Oper) (a:Act) (w:World),S w->Z4 P ops S (λa'=>∀W,S W->wpList P ops Q (l.drop n) a' W) (l.take n) a->wpList P ops Q l a w:=by
 intro n
 induction n with
 |zero=>intro l a w hS h;exact h w hS
 |succ n ih=>
  intro l a w hS h;cases l with
  |nil=>exact h w hS
  |cons o l=>
   obtain⟨v,m,g⟩:=h;refine wpList_step λK d=>?_
   rcases m with⟨j,k⟩|⟨j,rfl⟩
   ·rw[if_pos j];have c:=k w hS;unfold Oper.wp;generalize (execOp a.eval o).run P w=r at c;cases r with
    |ok n' w'=>
     cases n'<;>simp only[YD]at c<;>simp only[Oper.upon]
     case value u=>obtain⟨rfl,i⟩:=c;exact d _ _ (ih l _ _ i g)
     case skip=>obtain⟨rfl,i⟩:=c;exact d _ _ (ih l _ _ i g)
     case enter f args=>exact c.mono λe w'' ⟨he,hs⟩=>by subst he;exact d _ _ (ih l _ _ hs g)
    |halt x w'=>simp only[YD]at c
   ·rw[if_neg (by rw[j];simp)];exact d _ _ (ih l _ _ hS g)
theorem U6 (S:World->Prop)(n:Nat){l:List Oper}(hS:S w)(h:Z4 P ops S (λa'=>∀W,S W->wpList P ops Q (l.drop n) a' W) (l.take n) a):wpList P ops Q l a w:=Aem S hS n l a w hS h
theorem AfM (ty:TypeId)(x:Operand)(_:o.op=.load ty x)(h:Stop (wpList P ops Q (o::rest) a w) id):wpList P ops Q (o::rest) a w:=h.out
theorem ZJ (t:TypeId)(n:Nat)(ps:Array (Nat×Operand))(_:o.op=.buildSlice t n ps)(h:Stop (wpList P ops Q (o::rest) a w) id):wpList P ops Q (o::rest) a w:=h.out
theorem QA (hw:Region.wanted o (yielded ops a.tmps)=true)(t:TypeId)(n:Nat)(ps:Array (Nat×Operand))(ho:o.op=.buildSlice t n ps)(e:TypeId)(cells:Array Value)
 (hx:∀W,(Instr.buildSlice t n (ps.map λ(i,x)=>(i,a.eval x))).run P W=.ok (.slice (some ⟨W.heap.size,0,none⟩) n n) (W.alloc (.cells cells e)))
 (h:∀g w',w.heap.size<=g->Row w' g e cells->Below g w w'->wpList P ops Q rest (a.put o.dst (.slice (some ⟨g,0,none⟩) n n)) w'):wpList P ops Q (o::rest) a w:=by
 refine BigFrame.wpList_want hw λK c=>?_
 unfold Oper.wp execOp;simp only[ho,Sem.run_bind,hx,Result.andThen_ok,Sem.run_pure];exact c _ _ (h _ _ (Nat.le_refl _) (Row.new _ _ _) ((Below.refl _ _).alloc (Nat.le_refl _) _))
theorem Z8{t e:TypeId}{n sz:Nat}{z:Value}{parts:Array (Nat×Value)}{cells:Array Value}(hu:P.underlying t=some (.slice e))(hi:(P.info? e).map (λi=>(i.zero,i.size))=some (some z,sz))(h1:n*sz<=2 ^ 24)(h2:n*sz≠0)
 (hf:Instr.fill (λi=>some (i*sz,sz)) ((Array.range (n*sz)).map (z.cells[· % z.cells.size]!)) parts.toList=some cells):∀W,(Instr.buildSlice t n parts).run P W=.ok (.slice (some ⟨W.heap.size,0,none⟩) n n) (W.alloc (.cells cells e)):=by
 intro W;cases hq:P.info? e with
 |none=>rw[hq]at hi;cases hi
 |some ie=>
  rw[hq]at hi;simp only[Nq,Nc,Prod.mk.injEq]at hi;obtain⟨c,rfl⟩:=hi;exact run_buildSlice W t e n parts cells ie z hu hq c (by omega) h2 hf
end
end Go.Proofs.YtkoikjnlpifbjaaGreat
namespace Go.Proofs.YtkoikjnlpifbjaaGreat
open Go.RowKit Go.Deep
theorem Jz{W:World}{g:Nat}{t:TypeId}{cs:List Value}(h:Row W g t cs.toArray):Rd W (some ⟨g,0,none⟩) cs:=λj u hj=>⟨_,rfl,by
 have:=h.cellv (i:=j) (v:=u) (by simpa using hj)
 unfold Addr.add
 by_cases h0:j=0
 ·subst h0;exact this
 ·rw[if_neg h0];simpa using this⟩
theorem Aii:(Tryz.prog.info? 23).map (λi=>(i.zero,i.size))=some (some (.slice none 0 0),1):=by kernel_rfl
structure NdsR (l:List Nd)(w w':World)(e:Ending):Prop where
 ex:∃v,e=.returned v/\w'.ownsRow w.heap.size 65 2 v l.length (l.flatMap Nd.cells)/\Below w.heap.size w w'
theorem EQ (A:Option Addr)(m cp:Nat)(ps:List PtV)(w:World)(hm:m=ps.length)(hr:Rd w A (ps.map PtV.val))(hps:∀q∈ps,q.rd w)(hl:(Zh ps).length<=1000000)(hml:m<=1000):
 Calls Tryz.prog 163 #[.slice A m cp] w (λe w'=>NdsR (Zh ps) w w' e):=by
 have d:=Lh (AeN A m cp ps w hm hr hps hl hml);clear hm hr hps hl hml;go_enter Tryz.func163,Tryz.ntmps163
 go_wp2_with fail
 refine d.out.mono ?_;rintro e j ⟨v,rfl,c,g⟩;obtain⟨h,i,rfl⟩:=Zq c;go_wp2
 go_ret
 exact⟨_,rfl,c,g⟩
theorem AiJ (A:Option Addr)(cap:Nat)(l:List Nd)(q:Nat)(t:Tr)(w:World)(hat:At l q t)(hr:Rd w A (l.flatMap Nd.cells))(hl:l.length<=1000)(hlc:l.length<=cap)(hcm:cap<=maxLen):
 Calls Tryz.prog 192 #[.slice A l.length cap,.int .i64 (q:Int)] w (λe w'=>NdsR t.flat w w' e):=by
 have he:=JH A cap l (q:Int) w hr hl;rw[hat.endZ]at he;have af:=hat.le;have ab:=t.size_eq;obtain⟨m,rfl,_⟩:=J6 hr hat.root;obtain⟨y,i⟩:=hat.here
 have g:∀W,Rd W (some m) (l.flatMap Nd.cells)->Rd W (some (m.add (q*2))) (t.flat.flatMap Nd.cells):=by
  intro W h j u p
  obtain⟨ae,e,hc⟩:=h.part (q*2) (t.flat.flatMap Nd.cells) (λj u p=>by
   have h1:l=l.take q++(t.flat++y):=by rw[<-i,LF]
   have h2:(l.take q).length=q:=by rw[L1];omega
   rw[h1,L6,Lx (by rw[Z7,h2];omega),Z7,h2,Np,L6,L3 (La.1 p).1]
   exact p) (by rw[t.flat_eq];simp[Nd.cells])
  injection e with e;subst e;exact⟨_,rfl,hc j u p⟩
 have c:=Lh g;have He:=Lh he;have Hr:=Lh hr;have k:Hid (t.flat.length=t.size):=rfl;generalize aa:t.size=sz at*;have ac:(cap:Int)<=9223372036854775807:=by unfold maxLen at hcm;omega
 have ag:(q:Int)<=((q+sz:Nat):Int):=by omega
 have ah:((q+sz:Nat):Int)<=(cap:Int):=by omega
 have ai:¬(((q+sz:Nat):Int)<0):=by omega
 have aj:(1:Int)<=(sz:Int):=by omega
 clear he hr g i hat ab aa;go_enter Tryz.func192,Tryz.ntmps192
 go_wp2_with fail
 refine He.out.mono ?_;rintro e w1 ⟨rfl,z⟩;have s:=Lh (Hr.out.go z);have n:=Lh z;clear He Hr z;go_wp2_with (refine ZJ _ _ _ rfl ?_)
 refine Stop.to ?_;have hv:PtV.val ⟨some (m.add (q*2)),cap-q,t.flat⟩=.slice (some (m.add (q*2))) (q+sz-q) (cap-q):=by unfold PtV.val;rw[k.out,Np]
 refine QA rfl 284 1 _ rfl 23 #[PtV.val ⟨some (m.add (q*2)),cap-q,t.flat⟩] ?_ ?_
 ·rw[hv];exact Z8 Tryz.underlying284 Aii (by decide) (by decide) (by kernel_rfl)
 intro G w2 hG rG bG;have b2:=n.out.trans ((bG.mono hG).mono n.out.size)
 have p:=EQ (some ⟨G,0,none⟩) 1 1 [⟨some (m.add (q*2)),cap-q,t.flat⟩] w2 rfl (Jz (cs:=[PtV.val ⟨some (m.add (q*2)),cap-q,t.flat⟩]) rG) (λx hx=>by
  rw[Lv.1 hx]
  exact⟨c.out _ (s.out.go (bG.mono hG)),λe=>by cases e⟩) (by simp[Zh];have:=k.out;omega) (by omega)
 have Hj:=Lh p;have o:=Lh b2;clear p b2 rG bG hG s n c hv;go_wp2_with fail
 refine Hj.out.mono ?_;rintro e w3 ⟨v,rfl,d,b3⟩;rw[show Zh [⟨some (m.add (q*2)),cap-q,t.flat⟩]=t.flat by simp[Zh]]at d;obtain⟨A3,c3,rfl⟩:=Zq d;go_wp2
 go_ret
 exact⟨_,rfl,QR d o.out.size,o.out.trans (b3.mono o.out.size)⟩
theorem Ajv (W:World):(Instr.buildSlice 22 0 #[]).run Tryz.prog W=.ok (.slice (some ⟨W.heap.size,0,none⟩) 0 0) (W.alloc (.cells #[] 3)):=by kernel_rfl
theorem Y0{w:World}{base n:Nat}{e:TypeId}{v:Value}{xs:List Value}(h:w.ownsRow base e 1 v n xs):∃A cap,v=.slice A n cap/\Rd w A xs/\n<=cap/\(A=none->cap=0)/\∀ad,A=some ad->base<=ad.block:=by
 obtain⟨A,cap,rfl,j,k,l⟩:=Ab9 h;refine⟨A,cap,rfl,j,k,l,λad e=>?_⟩;rcases h.2 with⟨d,_⟩|⟨g,c,i,d,m,_⟩
 ·injection d with e3;rw[e]at e3;cases e3
 ·injection d with e3;rw[e]at e3;injection e3 with e3;rw[e3];exact m
theorem Va (A:Option Addr)(cap:Nat)(l:List Int)(w:World)(hr:Rd w A (Qi l))(hnil:A=none->l=[])(hl:l.length<=100000):
 Calls Tryz.prog 95 #[.slice A l.length cap] w λe w'=>IntsR l w w' e:=by
 rcases A with _|p
 ·have s:=hnil rfl;subst s;have k:=λW:World=>Lib.run_eql_slice_nil (P:=Tryz.prog) W 22 3 none 0 cap 0 0 Tryz.underlying22
  simp only[Option.isNone_none]at k;rw[show([]:List Int).length=0 from rfl];go_enter Tryz.func95,Tryz.ntmps95
  go_wp2_with fail
  go_ret
  exact⟨_,rfl,World.ownsRow_nil _ _ _ _,Below.refl _ _⟩
 ·have o:=Lh hr;have n:=Lh hl;clear hr hl hnil;have k:=λW:World=>Lib.run_eql_slice_nil (P:=Tryz.prog) W 22 3 (some p) l.length cap 0 0 Tryz.underlying22
  simp only[Option.isNone_some]at k;go_enter Tryz.func95,Tryz.ntmps95
  go_wp2_with (refine ZJ _ _ _ rfl ?_)
  refine Stop.to ?_;refine Zm rfl _ (Q0 [] rfl (Ajv w)) ?_;have j:=Row.new w 3 #[];have h:=(Below.refl w.heap.size w).alloc (Nat.le_refl _) (.cells #[] 3);generalize w.alloc (.cells #[] 3)=w1 at j h|-;obtain⟨v,x,d,c,i,_⟩:=ZA (P:=Tryz.prog) 22 3 (.int .i64 0) 1 8 Tryz.underlying22 Jc rfl (by decide) (by decide) (Yk (B:=w.heap.size) (size:=1) (Nat.le_refl _) j) h.size (o.out.go h) (m:=l.length) (cap:=cap) (by simp[Qi]) (Jn l) (by simp) (by have:=n.out;omega);rw[LG,Lm]at c;have q:=QL h (Yk (B:=w.heap.size) (size:=1) (Nat.le_refl _) j) i h.size (Nat.le_refl _);have g:=Lh d;clear d i j;go_wp2_with (refine XR ?_)
  refine Stop.to ?_;refine Zm rfl _ (QE rfl g.out) ?_;obtain⟨t,u,rfl⟩:=Zq c;go_wp2
  go_ret
  exact⟨_,rfl,c,q⟩
end Go.Proofs.YtkoikjnlpifbjaaGreat
