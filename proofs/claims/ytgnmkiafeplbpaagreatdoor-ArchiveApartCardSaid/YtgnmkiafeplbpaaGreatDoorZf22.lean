/- Lemmas for ArAll. -/
import Derived.Test.YtgnmkiafeplbpaaGreatDoorZf10
import Derived.Test.YtgnmkiafeplbpaaGreatDoorZf21
import Derived.Test.YtgnmkiafeplbpaaGreatDoorZf20
import Derived.Test.YtgnmkiafeplbpaaGreatDoorZf7
import Derived.Test.YtgnmkiafeplbpaaGreatDoorZf15
import Derived.Test.YtgnmkiafeplbpaaGreatDoorZf12
import Derived.Test.YtgnmkiafeplbpaaGreatDoorZf14
import Derived.Test.YtgnmkiafeplbpaaGreatDoorZf1
import Derived.OrdersHeld
set_option linter.unusedVariables false
set_option linter.unusedSimpArgs false
set_option maxRecDepth 100000
set_option maxHeartbeats 16000000
namespace Go.Proofs.YtgnmkiafeplbpaaGreatDoor
open Go.RowKit
section
variable {P:Program} {ops:Array Oper} {Q:Exit->Act->World->Prop} {md:Region.Mode} {S:World->Prop} {last:Nat}
def YieldsC (P:Program)(ops:Array Oper)(S:World->Prop)(o:Oper)(v:Value)(a:Act):Prop:=
 (Region.wanted o (yielded ops a.tmps)=true/\∀w,S w->(execOp a.eval o).run P w=.ok (.value v) w\/∃f args,(execOp a.eval o).run P w=.ok (.enter f args) w/\Calls P f args w λe w'=>e=.returned v/\w'=w)\/
 (Region.wanted o (yielded ops a.tmps)=false/\v=undef)
theorem QB{o:Oper}{v:Value}{a:Act}(h:YieldsIf P ops S o v a):YieldsC P ops S o v a:=h.imp (λ⟨hw,hv⟩=>⟨hw,λw hS=>.inl (hv w hS)⟩) id
theorem YieldsC.wpOp{i:Nat}{o:Oper}{v:Value}{a:Act}(hi:ops[i]? =some o)(hy:YieldsC P ops S o v a){K:Act->World->Prop}{w:World}(hS:S w)(h:K (a.put o.dst v) w):wpOp P ops Q i K a w:=by
 unfold Go.wpOp;simp only[hi];rcases hy with⟨c,b⟩|⟨c,rfl⟩
 ·rw[if_pos c];refine .inl ?_;unfold Oper.wp;rcases b w hS with b|⟨f,d,b,g⟩
  ·rw[b];exact h
  ·rw[b];refine Calls.mono g λe k j=>?_
   obtain⟨rfl,rfl⟩:=j;exact h
 ·rw[if_neg (by rw[c];simp)];exact h
theorem YieldsC.of_same{o:Oper}{v:Value}{a a':Act}(hy:YieldsC P ops S o v a)(he:execOp a'.eval o=execOp a.eval o)(hw:Region.wanted o (yielded ops a'.tmps)=Region.wanted o (yielded ops a.tmps)):YieldsC P ops S o v a':=by
 unfold YieldsC at*;rw[he,hw];exact hy
theorem Aiw{j:Nat}{oi oj:Oper}{v:Value}(hj:ops[j]? =some oj)(hap:oi.apart ops oj=true)
 (hsi:∀cs b,oi.op≠.select cs b) (hsj:∀cs b,oj.op≠.select cs b)
 (hQ:∀c a w,Q (.panic c) (a.put oi.dst v) w->Q (.panic c) a w) {K:Act->World->Prop} {a:Act} {w:World}
 (hy:YieldsC P ops S oi v a) (h:wpOp P ops Q j K (a.put oi.dst v) w):
 wpOp P ops Q j (λa' w'=>YieldsC P ops S oi v a'/\K (a'.put oi.dst v) w') a w:=by
 obtain⟨p,m,t⟩:=Oper.apart_spec hap
 have g:∀(a:Act),YieldsC P ops S oi v a->∀u,YieldsC P ops S oi v (a.put oj.dst u):=λa hy u=>
  hy.of_same (execOp_put oi hsi a oj.dst u t) (wanted_put oi a oj.dst u t)
 have l:∀d,YieldsC P ops S oi v { a with defers:=d::a.defers }:=λd=>hy.of_same rfl rfl
 unfold wpOp at*;simp only[hj]at*;rw[wanted_put oj a oi.dst v p]at h;split
 ·rename_i q;simp only[q,if_true]at h;rcases h with h|⟨i,k⟩
  case inr=>exact .inr ⟨by unfold Oper.asks at*;rw[execOp_put oj hsj a oi.dst v p]at i;exact i,k⟩
  refine .inl ?_;unfold Oper.wp at*;rw[execOp_put oj hsj a oi.dst v p]at h;generalize (execOp a.eval oj).run P w=r at*;cases r with
  |ok n w'=>
   cases n<;>simp only[Oper.upon]at h|-
   case value u=>exact⟨g a hy u,by rw[<-Act.put_comm a v u m];exact h⟩
   case skip=>exact⟨g a hy _,by rw[<-Act.put_comm a v undef m];exact h⟩
   case defer d=>
    refine⟨g _ (l d) _,?_⟩;rw[<-Act.put_comm _ v undef m, <-Act.put_defers];exact h
   case enter f args=>
    refine Calls.mono h λe s o=>?_
    cases e with
    |returned u=>exact⟨g a hy u,by rw[<-Act.put_comm a v u m];exact o⟩
    |panicked c=>exact hQ _ _ _ o
    |outgrown=>exact o
   case row row args=>exact Rows.mono h λu s o=>⟨g a hy u,by rw[<-Act.put_comm a v u m];exact o⟩
  |halt x w'=>
   cases x<;>simp only[Oper.upon]at h|-
   case panic u=>exact hQ _ _ _ h
 ·rename_i q;simp only[q]at h;exact⟨g a hy _,by rw[<-Act.put_comm a v undef m];exact h⟩
def XJ (P:Program)(md:Region.Mode)(ops:Array Oper)(Q:Exit->Act->World->Prop)(S:World->Prop)(last:Nat):Nat->Array Bool->Act->World->Prop
 |0,listed,a,w=>Region.ready md ops listed=[]/\Q .normal a w
 |fuel+1,listed,a,w=>
  (Region.ready md ops listed=[]->Q .normal a w)/\
  ∀i∈Region.ready md ops listed,wpOp P ops Q i (λa' w'=>(i≠last->S w')/\XJ P md ops Q S last fuel (listed.setIfInBounds i true) a' w') a w
theorem Abz:∀(fuel:Nat) (listed:Array Bool) (a:Act) (w:World),XJ P md ops Q S last fuel listed a w->wpAny P md ops Q fuel listed a w
 |0,_,_,_,h=>h
 |fuel+1,_,_,_,h=>⟨h.1,λi hi=>wpOp_mono (λa' w' h'=>Abz fuel _ a' w' h'.2) (h.2 i hi)⟩
theorem AdB{i:Nat}{oi:Oper}{v:Value}(hi:ops[i]? =some oi)(hsel:∀(j:Nat) (o:Oper) cs b,ops[j]? =some o->o.op≠.select cs b)
 (hil:i≠last) (hdep:∀o,ops[last]? =some o->∃e∈o.after,Region.binds md e=true/\e.on=i)
 (hQ:∀c a w,Q (.panic c) (a.put oi.dst v) w->Q (.panic c) a w):
 ∀(fuel:Nat) (listed:Array Bool) (a:Act) (w:World),
  (∀j oj,ops[j]? =some oj->j≠i->listed.getD j true=false->(∀e∈oj.after,Region.binds md e=true->e.on≠i)->oi.apart ops oj=true)->
  i∈Region.ready md ops listed->YieldsC P ops S oi v a->S w->
  XJ P md ops Q S last fuel (listed.setIfInBounds i true) (a.put oi.dst v) w->XJ P md ops Q S last (fuel+1) listed a w:=by
 intro fuel
 induction fuel with
 |zero=>
  intro listed a w _ t hy u H;refine⟨λh=>(by rw[h]at t;cases t),λj hj=>?_⟩;by_cases d:j=i
  ·subst d;exact hy.wpOp hi u ⟨λ_=>u,H⟩
  ·have:=ready_mono hj d;rw[H.1]at this;cases this
 |succ fuel ih=>
  intro listed a w g t hy u H;refine⟨λh=>(by rw[h]at t;cases t),λj hj=>?_⟩;by_cases d:j=i
  ·subst d;exact hy.wpOp hi u ⟨λ_=>u,H⟩
  ·have q:=H.2 j (ready_mono hj d);obtain⟨n,oj,m,x⟩:=mem_ready.1 hj
   have p:∀e∈oj.after,Region.binds md e=true->e.on≠i:=λe he hb s=>by
    have q:=x e he hb;have h0:=(mem_ready.1 t).1;rw[s]at q;rcases Nz i listed.size with h'|h'
    ·simp[h']at h0 q;rw[h0]at q;cases q
    ·simp[N0 h']at q
   have z:j≠last:=λe=>by
    subst e;obtain⟨e,he,hb,s⟩:=hdep oj m;exact p e he hb s
   have h2:=Aiw m (g j oj m d n p) (λcs b=>hsel i oi cs b hi) (λcs b=>hsel j oj cs b m) hQ hy q
   have l:∀k ok,ops[k]? =some ok->k≠i->(listed.setIfInBounds j true).getD k true=false->
    (∀e∈ok.after,Region.binds md e=true->e.on≠i)->oi.apart ops ok=true:=λk ok hk ab aa ac=>by
    refine g k ok hk ab ?_ ac;by_cases y:j=k
    ·subst y;exact n
    ·rw[getD_set_ne true y]at aa;exact aa
   refine wpOp_mono (λa' w' h3=>⟨λ_=>h3.2.1 z,ih (listed.setIfInBounds j true) a' w' l (ready_mono t (Ne.symm d)) h3.1 (h3.2.1 z) ?_⟩) h2;rw[NC _ _ d];exact h3.2.2
theorem Qp{rs:List Nat}{fuel:Nat}{listed:Array Bool}{a:Act}{w:World}(hr:Region.ready md ops listed=rs)(hne:rs≠[])
 (h:∀i∈rs,wpOp P ops Q i (λa' w'=>(i≠last->S w')/\XJ P md ops Q S last fuel (listed.setIfInBounds i true) a' w') a w):XJ P md ops Q S last (fuel+1) listed a w:=
 ⟨λh0=>absurd (hr▸h0) hne,hr▸h⟩
theorem Zv{listed:Array Bool}{a:Act}{w:World}(hr:Region.ready md ops listed=[])(h:Q .normal a w):∀fuel,XJ P md ops Q S last fuel listed a w
 |0=>⟨hr,h⟩
 |_+1=>⟨λ_=>h,by rw[hr];simp⟩
end
def AfS (md:Region.Mode)(ops:Array Oper)(last i:Nat):Bool:=match ops[last]? with|some o=>o.after.any (λe=>Region.binds md e && e.on==i) && (i != last)|none=>false
theorem Zr{P:Program}{md:Region.Mode}{l:List Oper}{Q:Exit->Act->World->Prop}{S:World->Prop}{last i:Nat}{oi:Oper}{rest:List Oper}{v:Value}{fuel:Nat}{listed:Array Bool}{a:Act}{w:World}(ho:l.drop i=oi::rest)
 (hs:Region.noSelect l.toArray=true) (hf:Region.free md l.toArray listed i=true) (hr:(Region.ready md l.toArray listed).contains i=true) (hd:AfS md l.toArray last i=true)
 (hQ:∀c a w,Q (.panic c) (a.put oi.dst v) w->Q (.panic c) a w) (hy:YieldsC P l.toArray S oi v a) (hS:S w)
 (h:XJ P md l.toArray Q S last fuel (listed.setIfInBounds i true) (a.put oi.dst v) w):XJ P md l.toArray Q S last (fuel+1) listed a w:=by
 have d:i≠last:=λe=>by
  subst e;unfold AfS at hd;split at hd
  ·simp at hd
  ·cases hd
 refine AdB (E1 ho) (Region.noSelect_spec hs) d (λo g=>?_) hQ fuel listed a w (Region.free_spec (E1 ho) hf) (by simpa using hr) hy hS h;unfold AfS at hd;rw[g]at hd;simp only[LK]at hd;obtain⟨n,j,b⟩:=Array.any_eq_true.1 hd.1;simp only[LK,beq_iff_eq]at b;exact⟨_,Array.getElem_mem j,b.1,b.2⟩
theorem J2{P:Program}{last id:Nat}{Q:Exit->Act->World->Prop}{a:Act}{w:World}{l:List Oper}{S:World->Prop}(hm:P.follows .mixedOrders=true)(h:XJ P .any l.toArray Q S last l.toArray.size (Array.replicate l.toArray.size false) a w.drew):(Code.region id l.toArray true).wp P Q a w:=
 wp_region_any hm (Abz _ _ _ _ h)
end Go.Proofs.YtgnmkiafeplbpaaGreatDoor
namespace Go.Proofs.YtgnmkiafeplbpaaGreatDoor
open Go.RowKit Go.Deep
theorem Ahc (w:World):(zeroValue 95).run Tryz.prog w=.ok (.agg #[.slice none 0 0,.int .i64 0,.int .i64 0,.int .i64 0,.int .i64 0,.int .i64 0,.int .i64 0,.string ByteArray.empty]) w:=by kernel_rfl
attribute [local go_sem] Oper.semAt_some
theorem MtOk.kx{X:Nat->Prop}{W W':World}{x:MtV}(h:MtOk W x)(k:KpX X W W')(s:Qj x.m.d.path≠[]->∀ad,x.A=some ad->¬X ad.block):MtOk W' x:=⟨k.rd h.rd s,h.len,h.nil,h.dig⟩
end Go.Proofs.YtgnmkiafeplbpaaGreatDoor
namespace Go.Proofs.YtgnmkiafeplbpaaGreatDoor
open Go.RowKit Go.Deep
attribute [local go_sem] Oper.semAt_some
theorem VK (w:World):(zeroValue 31).run Tryz.prog w=.ok (.agg #[.int .i64 0,.slice none 0 0,.slice none 0 0,.slice none 0 0,.int .i64 0,.slice none 0 0,.int .i64 0,.int .i64 0,.int .i64 0]) w:=by kernel_rfl
end Go.Proofs.YtgnmkiafeplbpaaGreatDoor
namespace Go.Proofs.YtgnmkiafeplbpaaGreatDoor
open Go.RowKit Go.Deep
def cp0:CpV:=⟨⟨0,none,0,[],none,0,[]⟩,none,0,[],0,none,0,[],⟨0,0,0⟩⟩
structure Cd where
 params:Int
 V:List Int
 body:List Nd
 tests:List (List Int)
 fuel:Int
 muts:List Mt
 sc:Sc
def CpV.data (c:CpV):Cd:=⟨c.p.params,c.p.V,c.p.body,c.testsL,c.fuel,c.muts,c.sc⟩
theorem UA (w:World):CpOk w cp0:=
 ⟨⟨by unfold InI cp0;simp,Nat.le_refl _,by unfold maxLen cp0;simp,λ_=>rfl,Rd.nil _ _,λt h=>by simp[cp0]at h,Nat.le_refl _,by unfold maxLen cp0;simp,λ_=>rfl,Rd.nil _ _,λt h=>by simp[cp0]at h⟩,
  by simp[cp0],by simp[cp0],Rd.nil _ _,λx h=>by simp[cp0]at h,by simp[cp0],λx h=>by simp[cp0]at h,λ_=>rfl,Rd.nil _ _,λx h=>by simp[cp0]at h,by simp[cp0],λ_=>rfl⟩
theorem VX{p q:PgV}(h1:p.params=q.params)(h2:p.V=q.V)(h3:p.body=q.body){t:Tr}(h:Good p t):Good q t:=
 ⟨h3▸h.hat,h3▸h.size,by rw[<-h1, <-h2];exact h.vars,h.tag,h2▸h.kind⟩
theorem Acf{p q:PgV}(h1:p.params=q.params)(h2:p.V=q.V)(h3:p.body=q.body){t:Tr}(h:Fine p t):Fine q t:=
 ⟨VX h1 h2 h3 h.good,h3▸h.len,h3▸h.ar,h.dep⟩
theorem Xl{p q:PgV}(h1:p.params=q.params)(h2:p.V=q.V)(h3:p.body=q.body):QP p=QP q:=by
 have e:(∃t,Good p t)<->(∃t,Good q t):=⟨λ⟨t,h⟩=>⟨t,VX h1 h2 h3 h⟩,λ⟨t,h⟩=>⟨t,VX h1.symm h2.symm h3.symm h⟩⟩;unfold QP;rw[h1,h2,h3];by_cases a:∃t,Good q t
 ·rw[if_pos a,if_pos (e.2 a)]
 ·rw[if_neg a,if_neg (λh=>a (e.1 h))]
theorem Ael{p q:PgV}(h1:p.params=q.params)(h2:p.V=q.V)(h3:p.body=q.body)(d:Dl):inP p d=inP q d:=by
 unfold inP;exact decide_eq_decide.2 ⟨λ⟨t,h,h'⟩=>⟨t,Acf h1 h2 h3 h,h3▸h'⟩,λ⟨t,h,h'⟩=>⟨t,Acf h1.symm h2.symm h3.symm h,h3.symm▸h'⟩⟩
theorem AlN{a b:Sc}:scB a b=true<->a=b:=by
 cases a;cases b;simp[scB]
structure OkC (c:CpV):Prop where
 prog:QP c.p=0
 suite:Zk c.p.params c.testsL c.fuel=0
 len:c.muts.length<=2000
 rise:K7 c.muts
 inp:∀m∈c.muts,inP c.p m.d=true
 odd:∀m∈c.muts,AaW c.testsL.length m=false
 sc:c.sc=Zf c.muts
theorem AgS:∀{l:List Int},orL l=0<->∀x∈l,x=0
 |[]=>by simp[orL]
 |x::l=>by
  rw[orL]
  by_cases h:x=0
  ·rw[if_pos h,AgS];simp[h]
  ·rw[if_neg h];simp[h]
theorem J6{b:Bool}{n:Int}(h:n≠0):QH b n=0<->b=true:=by cases b<;>simp[QH,h]
theorem okC{c:CpV}:QQ c=0<->OkC c:=by
 unfold QQ;rw[AgS];simp only[L6,LJ,or_false,forall_eq_or_imp,forall_eq];rw[J6 (by decide),J6 (by decide),J6 (by decide),J6 (by decide),J6 (by decide),J6 (by decide)];rw[riseB_iff,AlN];have d:c.muts.length=c.mts.length:=by unfold CpV.muts;rw[L7]
 have et:c.testsL.length=c.tests.length:=by unfold CpV.testsL;rw[L7]
 constructor
 ·rintro⟨e,g,i,j,k,l,n⟩;refine⟨by simpa using e,g,by rw[d];have:=of_decide_eq_true i;omega,j,λm b=>?_,λm b=>?_,n⟩
  ·obtain⟨x,a,rfl⟩:=LL.1 b;have:=k;simp only[N5,Nq]at this;simpa using this x a
  ·obtain⟨x,a,rfl⟩:=LL.1 b;have:=l;simp only[N5,Nq]at this;rw[et];simpa using this x a
 ·intro h;refine⟨by simp[h.prog],h.suite,by have:=h.len;rw[d]at this;exact decide_eq_true (by omega),h.rise,?_,?_,h.sc⟩
  ·simp only[N5,Nq];intro x a;simp[h.inp x.m (NA a)]
  ·simp only[N5,Nq];intro x a;have:=h.odd x.m (NA a);rw[et]at this;simp[this]
theorem data_iff{a b:CpV}:a.data=b.data<->(a.p.params=b.p.params/\a.p.V=b.p.V/\a.p.body=b.p.body)/\a.testsL=b.testsL/\a.fuel=b.fuel/\a.muts=b.muts/\a.sc=b.sc:=by
 unfold CpV.data;simp only[Cd.mk.injEq];constructor
 ·rintro⟨c,d,e,g,h,i,j⟩;exact⟨⟨c,d,e⟩,g,h,i,j⟩
 ·rintro⟨⟨c,d,e⟩,g,h,i,j⟩;exact⟨c,d,e,g,h,i,j⟩
theorem sameC_iff{a b:CpV}:JE a b=true<->a.data=b.data:=by
 rw[data_iff];unfold JE KN;simp only[LK,decide_eq_true_eq,beq_iff_eq];constructor
 ·rintro⟨⟨d,e,g⟩,h,c,⟨i,j,k⟩,l⟩;exact⟨⟨d,e,g⟩,h,c,l,by rw[show a.sc=⟨a.sc.alive,a.sc.killed,a.sc.timeout⟩from rfl,i,j,k]⟩
 ·rintro⟨d,e,g,h,c⟩;exact⟨d,e,g,⟨by rw[c],by rw[c],by rw[c]⟩,h⟩
theorem OkC.same{a b:CpV}(h:OkC a)(e:a.data=b.data):OkC b:=by
 obtain⟨⟨g,j,k⟩,l,n,c,o⟩:=data_iff.1 e;exact⟨(Xl g j k)▸h.prog,by rw[<-g, <-l, <-n];exact h.suite,c▸h.len,c▸h.rise,λm i=>(Ael g j k m.d)▸h.inp m (c▸i),λm i=>by rw[<-l];exact h.odd m (c▸i),by rw[<-c, <-o];exact h.sc⟩
def Sc.add (a b:Sc):Sc:=⟨a.alive+b.alive,a.killed+b.killed,a.timeout+b.timeout⟩
theorem AbR{m:Mt}(h:Kd m=true):m.verdict≠ -1:=by
 intro e;unfold Kd at h;rw[e]at h;simp at h
theorem OkC.verdict{c:CpV}(h:OkC c){m:Mt}(hm:m∈c.muts):m.verdict≠ -1:=by
 have:=h.odd m hm;unfold AaW at this;cases hr:Kd m
 ·rw[hr]at this;simp at this
 ·exact AbR hr
theorem Alo:(Tryz.prog.info? 95).map (λi=>(i.zero,i.size,i.bytes))=some (some (.agg #[.slice none 0 0,.int .i64 0,.int .i64 0,.int .i64 0,.int .i64 0,.int .i64 0,.int .i64 0,.string ByteArray.empty]),8,88):=by kernel_rfl
theorem Aez (a b:List MtV):ZH (a++b)=ZH a++ZH b:=by simp[ZH]
theorem AeA:∀l:List MtV,(ZH l).length=l.length*8
 |[]=>rfl
 |x::l=>by
  have:=AeA l
  have h:ZH (x::l)=x.cells++ZH l:=rfl
  rw[h,La,this];simp[MtV.cells];omega
theorem AjF (l:List MtV):∀u∈ZH l,u.oneCell'=true:=λu hu=>by
 obtain⟨x,_,a⟩:=N7.1 hu;have:=Adj x;rw[Array.all_eq_true']at this;exact this u (by simpa using a)
theorem Ahm{W:World}{B n m cap:Nat}{v:Value}{xs:List Value}{A:Option Addr}(hown:W.ownsRow B 95 8 v n xs)(hB:B<=W.heap.size)(l:List MtV)(hr:Rd W A (ZH l))(hm:m=l.length)(hA:A=none->m=0)(hb:n+m<=1000000):
 ∃v' W',(Builtin.append_ #[27,27] 27 #[v,.slice A m cap]).run Tryz.prog W=.ok v' W'/\W'.ownsRow B 95 8 v' (n+m) (xs++ZH l)/\W.grownBy W' v.ownBlock/\(v'.ownBlock=v.ownBlock\/v'.ownBlock=some W.heap.size):=
 Zq 27 95 _ 8 88 Tryz.underlying27 Alo rfl (by decide) (by decide) hown hB hr (by rw[AeA,hm]) (AjF l) hA hb
def MtT (W:World)(x:MtV):Prop:=MtOk W x/\IntB W x.A
theorem MtT.same{A B:World}{x:MtV}(h:MtT A x)(hb:∀(a:Addr) (cs:Array Value),x.A=some a->Row A a.block 3 cs->Row B a.block 3 cs):MtT B x:=
 ⟨⟨λj u hj=>by
  obtain⟨a,e,hc⟩:=h.1.rd j u hj
  obtain⟨cs,hr⟩:=h.2 a e
  exact⟨a,e,(World.cell?_of_block (by rw[JU];exact(hb a cs e hr).trans (Eq.symm hr))).trans hc⟩,h.1.len,h.1.nil,h.1.dig⟩,λa e=>by
  obtain⟨cs,hr⟩:=h.2 a e
  exact⟨cs,hb a cs e hr⟩⟩
theorem MtT.go{A B:World}{x:MtV}(h:MtT A x)(b:Below A.heap.size A B):MtT B x:=h.same λ_ _ _ hr=>hr.below b hr.lt
theorem MtT.abide{W W':World}{x:MtV}{row:Option Nat}{q:Nat->Prop}(h:MtT W x)(hg:W.grownBy W' row)(hr:∀r,row=some r->False\/(q r/\∃o:Obj,W.heap[r]? =some o/\o.isCells=false)):MtT W' x:=h.same λ_ _ _ k=>k.abide hg hr
theorem MtT.own{W W':World}{x:MtV}{lim n:Nat}{v:Value}{xs:List Value}(h:MtT W x)(hown:W.ownsRow lim 95 8 v n xs)(hg:W.grownBy W' v.ownBlock):MtT W' x:=h.same λ_ _ _ k=>k.grown hg (QK hown k (by decide))
theorem MtT.only{W W':World}{x:MtV}{g:Nat}{t:TypeId}{cs:Array Value}(h:MtT W x)(hr:Row W g t cs)(ht:t≠3)(o:Only g W W'):MtT W' x:=h.same λa cs' _ k=>k.only o (λe=>by
 have h1:W.heap[g]? =some (.cells cs' 3 (0,0)):=by rw[<-e];exact k
 rw[show W.heap[g]? =some (.cells cs t (0,0))from hr]at h1
 injection h1 with h1;injection h1 with _ h1;exact ht h1)
end Go.Proofs.YtgnmkiafeplbpaaGreatDoor
namespace Go.Proofs.YtgnmkiafeplbpaaGreatDoor
open Go.ChangeShapes Go.WideShapes Go.RowKit Go.Deep
theorem Ac5:Tryz.prog.cellsOf 9=1:=by kernel_rfl
theorem Eu:Tryz.prog.cellsOf 91=3:=by kernel_rfl
theorem Aan:Tryz.prog.cellsOf 93=2:=by kernel_rfl
theorem Ac4:Tryz.prog.cellsOf 95=8:=by kernel_rfl
theorem Afk:Tryz.prog.cellsOf 27=1:=by kernel_rfl
theorem AdQ:Tryz.prog.cellsOf 26=1:=by kernel_rfl
theorem Ev:Tryz.prog.cellsOf 29=3:=by kernel_rfl
theorem Afj:Tryz.prog.cellsOf 31=9:=by kernel_rfl
structure DlRaw (W:World)(x:DlV):Prop where
 rd:Rd W x.A (Qj x.d.path)
 len:x.d.path.length<=x.cap
 cap:x.cap<=maxLen
 nil:x.A=none->x.cap=0
 all:∀n∈x.d.path,InI n
 op:InI x.d.op
 n:InI x.d.n
theorem DlRaw.go{W W':World}{x:DlV}(h:DlRaw W x)(b:Below W.heap.size W W'):DlRaw W' x:=⟨h.rd.go b,h.len,h.cap,h.nil,h.all,h.op,h.n⟩
instance St.dlraw{x:DlV}:St (λW=>DlRaw W x):=⟨λh b=>h.go b⟩
theorem DlRaw.none{W:World}{x:DlV}(h:DlRaw W x)(e:x.A=none):x.d.path=[]:=L3 (by have:=h.nil e;have:=h.len;omega)
theorem DlRaw.ok{W:World}{x:DlV}(h:DlRaw W x)(hl:x.d.path.length<=1000000):DlOk W x:=⟨h.rd,hl⟩
structure MtIn (x:MtV):Prop where
 len:x.m.d.path.length<=x.cap
 cap:x.cap<=maxLen
 nil:x.A=none->x.cap=0
 all:∀n∈x.m.d.path,InI n
 op:InI x.m.d.op
 n:InI x.m.d.n
 verdict:InI x.m.verdict
 test:InI x.m.test
 kind:InI x.m.kind
 value:InI x.m.value
 dig:x.m.digest.length<=maxLen
def MtRaw (W:World)(x:MtV):Prop:=Rd W x.A (Qj x.m.d.path)/\MtIn x
theorem MtRaw.none{W:World}{x:MtV}(h:MtRaw W x)(e:x.A=Option.none):x.m.d.path=[]:=L3 (by have:=h.2.nil e;have:=h.2.len;omega)
structure CpIn (c:CpV):Prop where
 tlen:c.tests.length<=c.tcap
 tcap:c.tcap<=maxLen
 tnil:c.tA=none->c.tcap=0
 fuel:InI c.fuel
 mlen:c.mts.length<=c.mcap
 mcap:c.mcap<=maxLen
 mnil:c.mA=none->c.mcap=0
 mts:∀x∈c.mts,MtIn x
 alive:InI c.sc.alive
 killed:InI c.sc.killed
 timeout:InI c.sc.timeout
section
variable {H:Type} {enc:TypeId×Value->H} {w:World} {base:Nat} {spare:Nat->Bool} {held:Bool}
theorem AeH{fuel:Nat}{cs:List Value}{x:DataW H×List MemPlace}(h:DataW.trod enc Tryz.prog w base spare held fuel 91 cs=some x):∃x:DlV,DlRaw w x/\cs=x.cells.toList:=by
 obtain⟨q,n,e⟩:=JR Tryz.underlying91 h;have g:cs.length=3:=q.trans Eu
 match cs,g with
 |[a,b,c],_=>
  obtain⟨_,m⟩:=e 0 _ rfl;obtain⟨_,o⟩:=e 1 _ rfl;obtain⟨_,p⟩:=e 2 _ rfl;obtain⟨r,d,i⟩:=UI m;obtain⟨s,j,u⟩:=ZJ Tryz.underlying3 o;obtain⟨t,k,v⟩:=ZJ Tryz.underlying3 p;simp[Km,Aam]at i j k;exact⟨⟨r.addr,r.cap,⟨r.l,s,t⟩⟩,⟨d.reads,d.len,d.cap,d.nil,d.all,u,v⟩,by rw[i,j,k];rfl⟩
theorem Ah6{fuel:Nat}{cs:List Value}{x:DataW H×List MemPlace}(h:DataW.trod enc Tryz.prog w base spare held fuel 93 cs=some x):∃k v:Int,cs=[.int .i64 k,.int .i64 v]/\InI k/\InI v:=by
 obtain⟨l,n,g⟩:=JR Tryz.underlying93 h;have c:cs.length=2:=l.trans Aan
 match cs,c with
 |[a,b],_=>
  obtain⟨_,i⟩:=g 0 _ rfl;obtain⟨_,j⟩:=g 1 _ rfl;obtain⟨m,d,p⟩:=ZJ Tryz.underlying3 i;obtain⟨o,e,q⟩:=ZJ Tryz.underlying3 j;simp[Km]at d e;exact⟨m,o,by rw[d,e],p,q⟩
theorem AeJ{fuel:Nat}{cs:List Value}{x:DataW H×List MemPlace}(h:DataW.trod enc Tryz.prog w base spare held fuel 29 cs=some x):∃s:Sc,cs=s.cells.toList/\InI s.alive/\InI s.killed/\InI s.timeout:=by
 obtain⟨o,n,d⟩:=JR Tryz.underlying29 h;have e:cs.length=3:=o.trans Ev
 match cs,e with
 |[a,b,c],_=>
  obtain⟨_,k⟩:=d 0 _ rfl;obtain⟨_,l⟩:=d 1 _ rfl;obtain⟨_,m⟩:=d 2 _ rfl;obtain⟨p,g,u⟩:=ZJ Tryz.underlying3 k;obtain⟨q,i,v⟩:=ZJ Tryz.underlying3 l;obtain⟨t,j,y⟩:=ZJ Tryz.underlying3 m;simp[Km]at g i j;exact⟨⟨p,q,t⟩,by rw[g,i,j];rfl,u,v,y⟩
theorem Ah4{fuel:Nat}{cs:List Value}{x:DataW H×List MemPlace}(h:DataW.trod enc Tryz.prog w base spare held fuel 95 cs=some x):∃x:MtV,cs=x.cells/\MtRaw w x:=by
 obtain⟨y,n,b⟩:=JR Tryz.underlying95 h;have g:cs.length=8:=y.trans Ac4
 match cs,g with
 |[a0,a1,a2,a3,a4,a5,a6,a7],_=>
  obtain⟨_,o⟩:=b 0 _ rfl;obtain⟨_,p⟩:=b 1 _ rfl;obtain⟨_,q⟩:=b 2 _ rfl;obtain⟨_,t⟩:=b 3 _ rfl;obtain⟨_,u⟩:=b 4 _ rfl;obtain⟨x,a,c⟩:=AeH o;obtain⟨z,j,w1⟩:=ZJ Tryz.underlying3 p;obtain⟨n2,l,w2⟩:=ZJ Tryz.underlying3 q;obtain⟨k,v,e,w3,i⟩:=Ah6 t;obtain⟨s,m,_,w4⟩:=DataW.trod_string Tryz.underlying9 u;simp[Km,Ac5,Eu,Aan,DlV.cells]at c j l e m;refine⟨⟨x.A,x.cap,⟨x.d,z,n2,k,v,s.data.toList⟩⟩,?_,a.rd,a.len,a.cap,a.nil,a.all,a.op,a.n,w1,w2,w3,i,?_⟩
  ·rw[c.1,c.2.1,c.2.2,j,l,e.1,e.2,m];rfl
  ·show s.data.toList.length<=maxLen;rw[Array.length_toList];exact w4
theorem Af4{fuel:Nat}{cs:List Value}{x:DataW H×List MemPlace}(h:DataW.trod enc Tryz.prog w base spare held fuel 27 cs=some x):
 ∃(A:Option Addr) (cap:Nat) (l:List MtV),cs=[.slice A l.length cap]/\l.length<=cap/\cap<=maxLen/\(A=none->cap=0)/\Rd w A (ZH l)/\∀e∈l,MtRaw w e:=by
 obtain⟨A,cap,c,rfl,d,g,k,p,i,j⟩:=Ug Tryz.underlying27 h;obtain⟨l,rfl,a⟩:=YY MtV.cells (MtRaw w) c (λo b=>by obtain⟨n,y,m⟩:=j o b;exact Ah4 m);rw[L7]at d;exact⟨A,cap,l,by rw[L7],d,g,k,by rw[ZH,List.flatMap_def];exact i,a⟩
theorem AeK{fuel:Nat}{cs:List Value}{x:DataW H×List MemPlace}(h:DataW.trod enc Tryz.prog w base spare held fuel 26 cs=some x):
 ∃(A:Option Addr) (cap:Nat) (l:List IntsV),cs=[.slice A l.length cap]/\l.length<=cap/\cap<=maxLen/\(A=none->cap=0)/\Rd w A (ZU l)/\∀e∈l,e.ok w:=by
 obtain⟨A,cap,d,rfl,b,g,k,m,i,j⟩:=Ug Tryz.underlying26 h;obtain⟨l,rfl,a⟩:=YY (λx:IntsV=>[x.val]) (λx=>x.ok w) d (λq c=>by obtain⟨n,y,p⟩:=j q c;obtain⟨r,o,e⟩:=UI p;exact⟨r,e,o⟩);rw[L7]at b;refine⟨A,cap,l,by rw[L7],b,g,k,?_,a⟩
 rw[show ZU l=(l.map λx:IntsV=>[x.val]).flatten from by
  clear b g k m i j a h
  induction l with
  |nil=>rfl
  |cons x l ih=>simp only[ZU,No,List.flatten_cons,List.singleton_append]at ih|-;rw[<-ih]]
 exact i
theorem Uf{r:Go.Reach}{b0:Nat}{v:Value}{d:DataW H}{p:List MemPlace}(hv:Value.okWide Tryz.prog w r b0 31 v)(h:DataW.Trod enc Tryz.prog w base spare held 31 v d p):∃c:CpV,(CpRaw w c/\CpIn c)/\v=.agg c.cells:=by
 obtain⟨o,rfl,aa,x,hx⟩:=Ako Tryz.underlying31 hv h;obtain⟨hl,n,a⟩:=JR Tryz.underlying31 hx;have l:o.length=9:=hl.trans Afj
 match o,l with
 |[a0,a1,a2,a3,a4,a5,a6,a7,a8],_=>
  obtain⟨_,h0⟩:=a 0 _ rfl;obtain⟨_,h1⟩:=a 1 _ rfl;obtain⟨_,h2⟩:=a 2 _ rfl;obtain⟨_,h3⟩:=a 3 _ rfl;obtain⟨_,h4⟩:=a 4 _ rfl;obtain⟨q,hq,i⟩:=Af5 h0;obtain⟨tA,g,ts,t,g1,g2,g3,g4,g5⟩:=AeK h1;obtain⟨n2,u,w2⟩:=ZJ Tryz.underlying3 h2;obtain⟨mA,b,ms,z,k1,k2,k3,k4,m⟩:=Af4 h3;obtain⟨s,j,s1,s2,s3⟩:=AeJ h4;simp[Aao,Km,AdQ,Afk,Ev,PgV.cells,Sc.cells]at i t u z j
  refine⟨⟨q,tA,g,ts,n2,mA,b,ms,s⟩,⟨⟨hq,g4,g5,λe=>L3 (by have:=g3 e;show ts.length=0;omega),k4,λy k=>⟨(m y k).1,λe=>(m y k).none e⟩,λe=>L3 (by have:=k3 e;show ms.length=0;omega)⟩,
   ⟨g1,g2,g3,w2,k1,k2,k3,λy k=>(m y k).2,s1,s2,s3⟩⟩,?_⟩
  rw[i.1,i.2.1,i.2.2,t,u,z,j.1,j.2.1,j.2.2];rfl
end
end Go.Proofs.YtgnmkiafeplbpaaGreatDoor
namespace Go.Proofs.YtgnmkiafeplbpaaGreatDoor
open Go.RowKit Go.Deep
def bodyE:List Nd:=[⟨20,1⟩,⟨25,0⟩,⟨3,0⟩]
def treeE:Tr:=.node ⟨20,1⟩ [.node ⟨25,0⟩ [.node ⟨3,0⟩ []]]
def pE (g1 g2:Nat):PgV:=⟨1,some ⟨g1,0,none⟩,1,[0],some ⟨g2,0,none⟩,3,bodyE⟩
def mE:Mt:=⟨⟨[0],5,0⟩,0, -1,0,0,[]⟩
def tvE (g4:Nat):IntsV:=⟨some ⟨g4,0,none⟩,1,[1]⟩
def dE (g1 g2 g4 g5:Nat)(f:Int):CpV:=⟨pE g1 g2,some ⟨g5,0,none⟩,1,[tvE g4],f,none,0,[],⟨0,0,0⟩⟩
theorem E8{W:World}{g:Nat}{t:TypeId}{cs:List Value}(h:Row W g t cs.toArray):Rd W (some ⟨g,0,none⟩) cs:=Z6 h
theorem AmR{g1 g2:Nat}{W:World}(r1:Row W g1 3 (Qj [0]).toArray)(r2:Row W g2 52 (bodyE.flatMap Nd.cells).toArray):(pE g1 g2).ok W:=
 ⟨by unfold InI pE;dsimp only;omega,by simp[pE],by unfold maxLen;simp[pE],λh=>(by cases h),E8 r1,by simp[pE,InI],by simp[pE,bodyE],by unfold maxLen;simp[pE],λh=>(by cases h),E8 r2,by simp[pE,bodyE,InI]⟩
theorem Amy{g4:Nat}{W:World}(r4:Row W g4 3 (Qj [1]).toArray):(tvE g4).ok W:=
 ⟨by simp[tvE],by unfold maxLen;simp[tvE],λh=>(by cases h),E8 r4,by simp[tvE,InI]⟩
theorem AmM{g1 g2 g4 g5:Nat}{f:Int}{W:World}(r1:Row W g1 3 (Qj [0]).toArray)(r2:Row W g2 52 (bodyE.flatMap Nd.cells).toArray)(r4:Row W g4 3 (Qj [1]).toArray)
 (r5:Row W g5 22 (ZU [tvE g4]).toArray):CpOk W (dE g1 g2 g4 g5 f):=
 ⟨AmR r1 r2,by simp[dE,pE,bodyE],by simp[dE,pE],E8 r5,λx hx=>by rw[L8.1 hx];exact Amy r4,by simp[dE],λx hx=>by rw[L8.1 hx];simp[tvE],λh=>(by cases h),Rd.nil _ _,λx hx=>by simp[dE]at hx,by simp[dE],λ_=>rfl⟩
theorem Agj:treeE.fits:=by
 refine .mk _ _ (by rfl) (λk a=>?_);rw[L8.1 a];refine .mk _ _ (by rfl) (λk a=>?_);rw[L8.1 a];exact .mk _ _ (by rfl) (λk a=>by simp at a)
theorem AmO (g1 g2:Nat):Good (pE g1 g2) treeE:=⟨⟨Agj,[],by rfl⟩,by rfl,by show Yn 1 [0];decide,rfl,by show ofT [0] treeE=2;decide+kernel⟩
theorem AmN (g1 g2:Nat):Fine (pE g1 g2) treeE:=⟨AmO g1 g2,by simp[pE,bodyE],by show ∀x∈bodyE,¬Qy x<0;decide,by decide+kernel⟩
theorem okD (g1 g2 g4 g5:Nat){f:Int}(h:f=9\/f=8):OkC (dE g1 g2 g4 g5 f):=
 ⟨checkP_ok.2 ⟨_,AmN g1 g2⟩,by show Zk 1 [[1]] f=0;rcases h with rfl|rfl<;>decide,by show([]:List Mt).length<=2000;decide,trivial,λm hm=>by simp[dE,CpV.muts]at hm,λm hm=>by simp[dE,CpV.muts]at hm,by show(⟨0,0,0⟩:Sc)=Zf [];rfl⟩
theorem Afn:QP cp0.p=10:=by rw[Aaq (by rw[UQ rfl];decide),UQ rfl]
theorem AgC:(Tryz.prog.info? 3).map (λi=>(i.zero,i.size))=some (some (.int .i64 0),1):=by kernel_rfl
theorem Alp:(Tryz.prog.info? 52).map (λi=>(i.zero,i.size))=some (some (.agg #[.int .i64 0,.int .i64 0]),2):=by kernel_rfl
theorem Alq:(Tryz.prog.info? 22).map (λi=>(i.zero,i.size))=some (some (.slice none 0 0),1):=by kernel_rfl
theorem AkE{w:World}:(zeroValue 25).run Tryz.prog w=.ok (.agg #[.int .i64 0,.slice none 0 0,.slice none 0 0]) w:=by kernel_rfl
end Go.Proofs.YtgnmkiafeplbpaaGreatDoor
namespace Go.Proofs.YtgnmkiafeplbpaaGreatDoor
open Go.RowKit
def XV:Nat->List UInt8->Option Nat
 |0,_=>none
 |_+1,[]=>none
 |f+1,b::t=>if b.toNat<128 then some 1 else(XV f t).map (· +1)
def Zx:List UInt8->Nat
 |[]=>0
 |b::t=>b.toNat % 128+128*Zx t
inductive LebW:List UInt8->Prop
 |one (b:UInt8) (h:b.toNat<128):LebW [b]
 |more (b:UInt8) (t:List UInt8) (h:128<=b.toNat) (k:LebW t):LebW (b::t)
theorem LebW.pos{p:List UInt8}(h:LebW p):0<p.length:=by cases h<;>simp
theorem XW:∀{f k:Nat} {t:List UInt8},XV f t=some k->LebW (t.take k)/\k<=f/\k<=t.length/\0<k
 |0,_,_,h=>by simp[XV]at h
 |f+1,k,[],h=>by simp[XV]at h
 |f+1,k,b::t,h=>by
  rw[XV]at h
  by_cases hb:b.toNat<128
  ·rw[if_pos hb]at h
   injection h with h
   subst h
   exact⟨by simpa using LebW.one b hb,by omega,by simp,by omega⟩
  ·rw[if_neg hb]at h
   obtain⟨j,hj,rfl⟩:=Option.map_eq_some_iff.1 h
   obtain⟨h1,h2,h3,h4⟩:=XW hj
   exact⟨by rw[LY];exact .more b _ (by omega) h1,by omega,by simp;omega,by omega⟩
theorem E5:∀(p:List UInt8),Zx p<128 ^ p.length
 |[]=>by simp[Zx]
 |b::t=>by
  have:=E5 t
  rw[Zx,Le,Nr]
  have hb:b.toNat % 128<128:=Nat.mod_lt _ (by decide)
  omega
theorem Uc:∀(p:List UInt8) (b:UInt8),Zx (p++[b])=Zx p+b.toNat % 128*128 ^ p.length
 |[],b=>by simp[Zx]
 |c::t,b=>by
  rw[Lk,Zx,Zx,Uc t b,Le,Nr,Nat.mul_add,Nat.mul_comm 128 (b.toNat % 128*_),Nat.mul_assoc]
  omega
theorem Acu:∀{p:List UInt8} {b:UInt8},p.getLast?=some b->b.toNat % 128*128 ^ (p.length-1)<=Zx p:=λ{p b} h=>by
 obtain⟨q,rfl⟩:∃q,p=q++[b]:=by
  rw[List.getLast?_eq_some_iff]at h;exact h
 rw[Uc];simp
theorem LebW.last{p:List UInt8}(h:LebW p):∃b,p.getLast?=some b/\b.toNat<128:=by
 induction h with
 |one b h=>exact⟨b,rfl,h⟩
 |more b t h k ih=>
  obtain⟨c,a,d⟩:=ih;refine⟨c,?_,d⟩;rw[List.getLast?_cons,a];rfl
theorem Amb{b:UInt8}{n:Nat}(h:n=b.toNat):UInt8.ofNat n=b:=by rw[h];simp
theorem Amn{p:List UInt8}(h:LebW p):∀f,p.length<=f->(1<p.length->p.getLast?≠some 0)->Xi f (Zx p)=p:=by
 induction h with
 |one b hb=>
  intro f d _;obtain⟨g,rfl⟩:∃g,f=g+1:=⟨f-1,by simp at d;omega⟩;have e:Zx [b]=b.toNat:=by rw[Zx,Zx];omega
  rw[e,Kn _ _ hb,Amb rfl]
 |more b t hb k ih=>
  intro f d q;obtain⟨g,rfl⟩:∃g,f=g+1:=⟨f-1,by simp at d;omega⟩;have x:=k.pos;obtain⟨c,l,n⟩:=k.last;have a:(b::t).getLast?=some c:=by rw[List.getLast?_cons,l];rfl
  have m:c≠0:=λe=>q (by simp;omega) (by rw[a,e])
  have o:0<c.toNat:=by
   rcases Nj c.toNat with h|h
   ·exact absurd (UInt8.toNat_inj.1 (by simpa using h)) m
   ·exact h
  have y:0<Zx t:=by
   have i:=Acu l;have j:0<128 ^ (t.length-1):=Nat.pow_pos (by decide);have v:c.toNat % 128=c.toNat:=LE n;rw[v]at i;exact Lg (Nat.mul_pos o j) i
  have w:=b.toNat_lt;have s:Zx (b::t) % 128=b.toNat % 128:=by rw[Zx];omega
  have u:Zx (b::t) / 128=Zx t:=by rw[Zx];omega
  rw[XU _ _ (by rw[Zx];omega),s,u,ih g (by simp at d;omega) (λi j=>q (by simp;omega) (by rw[a, <-j,l])),show UInt8.ofNat (128+b.toNat % 128)=b from Amb (by omega)]
theorem AfU:∀(f n:Nat),n<128 ^ f->Zx (Xi f n)=n
 |0,n,h=>by simp at h;rw[Xi,Zx,h]
 |f+1,n,h=>by
  by_cases hn:n<128
  ·rw[Kn _ _ hn,Zx,Zx]
   have:(UInt8.ofNat n).toNat=n:=by simp;omega
   rw[this];omega
  ·rw[XU _ _ hn,Zx,AfU f (n / 128) (by rw[Nr]at h;omega)]
   have:(UInt8.ofNat (128+n % 128)).toNat=128+n % 128:=by simp;omega
   rw[this];omega
theorem AfT:∀(f n:Nat),n<128 ^ (f+1)->LebW (Xi (f+1) n)
 |f,n,h=>by
  by_cases hn:n<128
  ·rw[Kn _ _ hn]
   exact .one _ (by simp;omega)
  ·rw[XU _ _ hn]
   cases f with
   |zero=>simp at h;omega
   |succ f=>exact .more _ _ (by simp;omega) (AfT f (n / 128) (by rw[Nr]at h;omega))
theorem Acs:∀(f n:Nat),n<128 ^ (f+1)->1<(Xi (f+1) n).length->(Xi (f+1) n).getLast?≠some 0
 |f,n,h,hl=>by
  by_cases hn:n<128
  ·rw[Kn _ _ hn]at hl;simp at hl
  ·rw[XU _ _ hn]at hl|-
   cases f with
   |zero=>simp at h;omega
   |succ f=>
    have hw:=AfT f (n / 128) (by rw[Nr]at h;omega)
    obtain⟨c,hc,_⟩:=hw.last
    rw[List.getLast?_cons,hc]
    show some c≠some 0
    by_cases h1:1<(Xi (f+1) (n / 128)).length
    ·rw[<-hc];exact Acs f (n / 128) (by rw[Nr]at h;omega) h1
    ·have hsm:n / 128<128:=by
       rcases Nz (n / 128) 128 with a|a
       ·exact a
       ·rw[XU _ _ (by omega)]at h1;have:=AaR;cases f with
        |zero=>simp at h;omega
        |succ f=>have:=AaR f (n / 128 / 128);simp only[Le]at h1;omega
     rw[Kn _ _ hsm]at hc
     simp at hc
     rw[<-hc]
     intro e
     injection e with e
     have:=Am5 (b:=0) (by simpa using e)
     omega
def QL (t:List UInt8):Int×Nat×Nat:=
 match XV 10 t with
 |none=>if t.length<10 then(2,0,0)else(3,0,0)
 |some k=>if QC (Zx (t.take k) % 18446744073709551616)=t.take k then(0,Zx (t.take k) % 18446744073709551616,k)else(3,0,0)
theorem AhW{p:List UInt8}(h:LebW p)(hl:p.length<=10){b:UInt8}(hb:p.getLast?=some b):QC (Zx p % 18446744073709551616)=p<->¬((b=0/\1<p.length)\/(p.length=10/\1<b.toNat)):=by
 have m:(128:Nat) ^ 9=9223372036854775808:=by decide
 have j:(128:Nat) ^ 10=1180591620717411303424:=by decide
 constructor
 ·intro e k;have x:Zx p % 18446744073709551616<18446744073709551616:=Nat.mod_lt _ (by decide)
  have y:Zx p=Zx p % 18446744073709551616:=by
   have a:=AfU 10 (Zx p % 18446744073709551616) (by rw[j];omega);rw[show Xi 10 (Zx p % 18446744073709551616)=p from e]at a;exact a
  rcases k with⟨u,a⟩|⟨a,i⟩
  ·have g:=Acs 9 (Zx p % 18446744073709551616) (by rw[j];omega);rw[show Xi 10 (Zx p % 18446744073709551616)=p from e]at g;exact g a (by rw[hb,u])
  ·have g:=Acu hb;obtain⟨c,d,l⟩:=h.last;rw[hb]at d;injection d with d;subst d;rw[a,LE l]at g;rw[show(10:Nat)-1=9 from rfl,m]at g;omega
 ·intro s;obtain⟨c,d,l⟩:=h.last;rw[hb]at d;injection d with d;subst d
  have o:Zx p<18446744073709551616:=by
   rcases Nz p.length 10 with a|a
   ·have i:=E5 p;have g:128 ^ p.length<=128 ^ 9:=Nat.pow_le_pow_right (by decide) (by omega);rw[m]at g;omega
   ·obtain⟨q,rfl⟩:∃q,p=q++[b]:=by rw[List.getLast?_eq_some_iff]at hb;exact hb
    have t:q.length=9:=by simp at hl a;omega
    rw[Uc,t,m];have i:=E5 q;rw[t,m]at i
    have g:b.toNat<=1:=by
     rcases Nz 1 b.toNat with n|n
     ·exact absurd (.inr ⟨by simp;omega,n⟩) s
     ·exact n
    have v:b.toNat % 128<=1:=by omega
    have w:b.toNat % 128*9223372036854775808<=9223372036854775808:=by
     rcases Nat.le_one_iff_eq_zero_or_eq_one.1 v with h|h<;>rw[h]<;>decide
    omega
  rw[LE o];exact Amn h 10 hl (λa i=>s (.inl ⟨by rw[hb]at i;exact Option.some.inj i,a⟩))
theorem U2 (n:Nat)(hn:n<18446744073709551616)(r:List UInt8):QL (QC n++r)=(0,n,(QC n).length):=by
 have a:(128:Nat) ^ 10=1180591620717411303424:=by decide
 have i:LebW (QC n):=AfT 9 n (by rw[a];omega)
 have d:∀{p:List UInt8},LebW p->∀f,p.length<=f->XV f (p++r)=some p.length:=by
  intro p e
  induction e with
  |one b hb=>
   intro f c;obtain⟨g,rfl⟩:∃g,f=g+1:=⟨f-1,by simp at c;omega⟩;simp[XV,hb]
  |more b t hb k ih=>
   intro f c;obtain⟨g,rfl⟩:∃g,f=g+1:=⟨f-1,by simp at c;omega⟩;rw[Lk,XV,if_neg (by omega),ih g (by simp at c;omega)];rfl
 unfold QL;rw[d i 10 (Qz n)];have h:Zx (QC n)=n:=AfU 10 n (by rw[a];omega);simp only[Ng,h,LE hn,if_true]
theorem Alj{t:List UInt8}{n k:Nat}(h:QL t=(0,n,k)):n<18446744073709551616/\k=(QC n).length/\t=QC n++t.drop k:=by
 unfold QL at h;cases hk:XV 10 t with
 |none=>
  rw[hk]at h;by_cases a:t.length<10
  ·simp[a]at h
  ·simp[a]at h
 |some j=>
  rw[hk]at h;obtain⟨_,_,b,_⟩:=XW hk;by_cases a:QC (Zx (t.take j) % 18446744073709551616)=t.take j
  ·simp only[a,if_true,Prod.mk.injEq,true_and]at h;obtain⟨rfl,rfl⟩:=h;exact⟨Nat.mod_lt _ (by decide),by rw[a,LH,NE b],by rw[a,LC]⟩
  ·simp only[a,if_false,Prod.mk.injEq]at h;exact absurd h.1 (by decide)
end Go.Proofs.YtgnmkiafeplbpaaGreatDoor
