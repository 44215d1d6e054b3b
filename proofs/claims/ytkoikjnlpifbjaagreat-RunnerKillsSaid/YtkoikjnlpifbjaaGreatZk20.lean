/- Lemmas for RunnerKillsP. -/
import Derived.Test.YtkoikjnlpifbjaaGreatZk1
import Derived.Test.YtkoikjnlpifbjaaGreatZk19
import Derived.Test.YtkoikjnlpifbjaaGreatZk12
import Derived.Test.YtkoikjnlpifbjaaGreatZk16
import Derived.Test.YtkoikjnlpifbjaaGreatZk8
import Derived.Test.YtkoikjnlpifbjaaGreatZk14
import Derived.Test.YtkoikjnlpifbjaaGreatZk13
set_option linter.unusedVariables false
set_option linter.unusedSimpArgs false
set_option maxRecDepth 100000
set_option maxHeartbeats 16000000
namespace Go.Proofs.YtkoikjnlpifbjaaGreat
open Go.RowKit Go.Deep
theorem Vc{p q:PgV}(h1:p.params=q.params)(h2:p.V=q.V)(h3:p.body=q.body){t:Tr}(h:Good p t):Good q t:=
 ⟨h3▸h.hat,h3▸h.size,by rw[<-h1, <-h2];exact h.vars,h.tag,h2▸h.kind⟩
theorem Abi{p q:PgV}(h1:p.params=q.params)(h2:p.V=q.V)(h3:p.body=q.body){t:Tr}(h:Fine p t):Fine q t:=
 ⟨Vc h1 h2 h3 h.good,h3▸h.len,h3▸h.ar,h.dep⟩
theorem Ac0{p q:PgV}(h1:p.params=q.params)(h2:p.V=q.V)(h3:p.body=q.body):QX p=QX q:=by
 have e:(∃t,Good p t)<->(∃t,Good q t):=⟨λ⟨t,h⟩=>⟨t,Vc h1 h2 h3 h⟩,λ⟨t,h⟩=>⟨t,Vc h1.symm h2.symm h3.symm h⟩⟩;unfold QX;rw[h1,h2,h3];by_cases c:∃t,Good q t
 ·rw[if_pos c,if_pos (e.2 c)]
 ·rw[if_neg c,if_neg (λh=>c (e.1 h))]
theorem Aih{p q:PgV}(h1:p.params=q.params)(h2:p.V=q.V)(h3:p.body=q.body)(d:Dl):inP p d=inP q d:=by
 unfold inP;exact decide_eq_decide.2 ⟨λ⟨t,h,h'⟩=>⟨t,Abi h1 h2 h3 h,h3▸h'⟩,λ⟨t,h,h'⟩=>⟨t,Abi h1.symm h2.symm h3.symm h,h3.symm▸h'⟩⟩
structure OkC (c:CpV):Prop where
 prog:QX c.p=0
 suite:Z3 c.p.params c.testsL c.fuel=0
 len:c.muts.length<=2000
 rise:AiP c.muts
 inp:∀m∈c.muts,inP c.p m.d=true
 odd:∀m∈c.muts,Ak5 c.testsL.length m=false
 sc:c.sc=QF c.muts
theorem data_iff{a b:CpV}:a.data=b.data<->(a.p.params=b.p.params/\a.p.V=b.p.V/\a.p.body=b.p.body)/\a.testsL=b.testsL/\a.fuel=b.fuel/\a.muts=b.muts/\a.sc=b.sc:=by
 unfold CpV.data;simp only[Cd.mk.injEq];constructor
 ·rintro⟨c,d,e,g,h,i,j⟩;exact⟨⟨c,d,e⟩,g,h,i,j⟩
 ·rintro⟨⟨c,d,e⟩,g,h,i,j⟩;exact⟨c,d,e,g,h,i,j⟩
theorem OkC.same{a b:CpV}(h:OkC a)(e:a.data=b.data):OkC b:=by
 obtain⟨⟨g,j,k⟩,l,n,c,o⟩:=data_iff.1 e;exact⟨(Ac0 g j k)▸h.prog,by rw[<-g, <-l, <-n];exact h.suite,c▸h.len,c▸h.rise,λm i=>(Aih g j k m.d)▸h.inp m (c▸i),λm i=>by rw[<-l];exact h.odd m (c▸i),by rw[<-c, <-o];exact h.sc⟩
theorem AjS:(Tryz.prog.info? 54).map (λi=>(i.zero,i.size,i.bytes))=some (some (.agg #[.slice none 0 0,.int .i64 0,.int .i64 0,.int .i64 0,.int .i64 0,.int .i64 0,.int .i64 0,.string ByteArray.empty]),8,88):=by kernel_rfl
theorem VF (a b:List MtV):XJ (a++b)=XJ a++XJ b:=by simp[XJ]
theorem AdK:∀l:List MtV,(XJ l).length=l.length*8
 |[]=>rfl
 |x::l=>by
  have:=AdK l
  have h:XJ (x::l)=x.cells++XJ l:=rfl
  rw[h,Le,this];simp[MtV.cells];omega
theorem Ait (l:List MtV):∀u∈XJ l,u.oneCell'=true:=λu hu=>by
 obtain⟨x,_,c⟩:=ND.1 hu;have:=Afb x;rw[Array.all_eq_true']at this;exact this u (by simpa using c)
theorem AaY{W:World}{B n m cap:Nat}{v:Value}{xs:List Value}{A:Option Addr}(hown:W.ownsRow B 54 8 v n xs)(hB:B<=W.heap.size)(l:List MtV)(hr:Rd W A (XJ l))(hm:m=l.length)(hA:A=none->m=0)(hb:n+m<=1000000):
 ∃v' W',(Builtin.append_ #[34,34] 34 #[v,.slice A m cap]).run Tryz.prog W=.ok v' W'/\W'.ownsRow B 54 8 v' (n+m) (xs++XJ l)/\W.grownBy W' v.ownBlock/\(v'.ownBlock=v.ownBlock\/v'.ownBlock=some W.heap.size):=
 ZA 34 54 _ 8 88 Tryz.underlying34 AjS rfl (by decide) (by decide) hown hB hr (by rw[AdK,hm]) (Ait l) hA hb
def MtT (W:World)(x:MtV):Prop:=MtOk W x/\IntB W x.A
theorem MtT.same{A B:World}{x:MtV}(h:MtT A x)(hb:∀(a:Addr) (cs:Array Value),x.A=some a->Row A a.block 3 cs->Row B a.block 3 cs):MtT B x:=
 ⟨⟨λj u hj=>by
  obtain⟨a,e,hc⟩:=h.1.rd j u hj
  obtain⟨cs,hr⟩:=h.2 a e
  exact⟨a,e,(World.cell?_of_block (by rw[JG];exact(hb a cs e hr).trans (Eq.symm hr))).trans hc⟩,h.1.len,h.1.nil,h.1.dig⟩,λa e=>by
  obtain⟨cs,hr⟩:=h.2 a e
  exact⟨cs,hb a cs e hr⟩⟩
theorem MtT.go{A B:World}{x:MtV}(h:MtT A x)(b:Below A.heap.size A B):MtT B x:=h.same λ_ _ _ hr=>hr.below b hr.lt
theorem MtT.abide{W W':World}{x:MtV}{row:Option Nat}{q:Nat->Prop}(h:MtT W x)(hg:W.grownBy W' row)(hr:∀r,row=some r->False\/(q r/\∃o:Obj,W.heap[r]? =some o/\o.isCells=false)):MtT W' x:=h.same λ_ _ _ k=>k.abide hg hr
theorem MtT.own{W W':World}{x:MtV}{lim n:Nat}{v:Value}{xs:List Value}(h:MtT W x)(hown:W.ownsRow lim 54 8 v n xs)(hg:W.grownBy W' v.ownBlock):MtT W' x:=h.same λ_ _ _ k=>k.grown hg (Qz hown k (by decide))
theorem MtT.only{W W':World}{x:MtV}{g:Nat}{t:TypeId}{cs:Array Value}(h:MtT W x)(hr:Row W g t cs)(ht:t≠3)(o:Only g W W'):MtT W' x:=h.same λa cs' _ k=>k.only o (λe=>by
 have h1:W.heap[g]? =some (.cells cs' 3 (0,0)):=by rw[<-e];exact k
 rw[show W.heap[g]? =some (.cells cs t (0,0))from hr]at h1
 injection h1 with h1;injection h1 with _ h1;exact ht h1)
theorem Adm:(Tryz.prog.info? 54).map (λi=>(i.zero,i.size))=some (some (.agg #[.slice none 0 0,.int .i64 0,.int .i64 0,.int .i64 0,.int .i64 0,.int .i64 0,.int .i64 0,.string ByteArray.empty]),8):=by kernel_rfl
attribute [local go_sem] Oper.semAt_some
theorem Uf{w w':World}(h:w.grownBy w' none):Below w.heap.size w w':=⟨h.os,h.tape,h.output,h.size,λk hk=>h.block k hk (by simp)⟩
def RowB (W:World)(t:TypeId)(A:Option Addr):Prop:=∀ad,A=some ad->∃cs:Array Value,Row W ad.block t cs
theorem RowB.go{W W':World}{t:TypeId}{A:Option Addr}(h:RowB W t A)(b:Below W.heap.size W W'):RowB W' t A:=λad e=>by
 obtain⟨d,c⟩:=h ad e;exact⟨d,c.below b c.lt⟩
theorem RowB.only{W W':World}{t t':TypeId}{A:Option Addr}{g:Nat}{cs':Array Value}(h:RowB W t A)(o:Only g W W')(hg:Row W g t' cs')(ne:t≠t'):RowB W' t A:=λad e=>by
 obtain⟨d,i⟩:=h ad e;refine⟨d,i.only o λj=>ne ?_⟩;have c:W.heap[g]? =some (.cells d t (0,0)):=by rw[<-j];exact i
 rw[show W.heap[g]? =some (.cells cs' t' (0,0))from hg]at c;injection c with c;injection c with _ c;exact c.symm
theorem RowB.kp{W W':World}{t:TypeId}{A:Option Addr}{X:Nat->Prop}(h:RowB W t A)(k:KpX X W W')(hx:∀i cs,Row W i t cs->¬X i):RowB W' t A:=λad e=>by
 obtain⟨cs,c⟩:=h ad e;exact⟨cs,k.row c (hx _ _ c)⟩
theorem Xl{w:World}{base size n m c:Nat}{e:TypeId}{A:Option Addr}{xs:List Value}(h:w.ownsRow base e size (.slice A m c) n xs):RowB w e A:=λad ha=>by
 rcases h.2 with⟨i,_⟩|⟨g,c,d,i,k,j,_⟩
 ·injection i with e3;rw[ha]at e3;cases e3
 ·injection i with e3;rw[ha]at e3;injection e3 with e3;rw[e3];exact⟨d,j⟩
structure CpT (W:World)(c:CpV):Prop where
 va:RowB W 3 c.p.va
 ba:RowB W 65 c.p.ba
 tA:RowB W 22 c.tA
 ts:∀x∈c.tests,RowB W 3 x.addr
 mA:RowB W 54 c.mA
 ms:∀x∈c.mts,RowB W 3 x.A
theorem CpT.zero (W:World):CpT W cp0:=⟨λad e=>(by cases e),λad e=>(by cases e),λad e=>(by cases e),λx hx=>(by simp[cp0]at hx),λad e=>(by cases e),λx hx=>(by simp[cp0]at hx)⟩
theorem PgV.ok.only{p:PgV}{W W':World}{g:Nat}(h:p.ok W)(o:Only g W W')(h1:∀a,p.va=some a->a.block≠g)(h2:∀a,p.ba=some a->a.block≠g):p.ok W':=
 ⟨h.par,h.vlen,h.vmax,h.vnil,h.vrd.only o (λ_ a e=>h1 a e),h.vin,h.blen,h.bmax,h.bnil,h.brd.only o (λ_ a e=>h2 a e),h.bin⟩
theorem RowB.ne{W:World}{t:TypeId}{A:Option Addr}{g:Nat}{cs':Array Value}(h:RowB W t A)(hg:Row W g 38 cs')(ne:t≠38):∀ad,A=some ad->ad.block≠g:=λad e e2=>by
 obtain⟨d,i⟩:=h ad e;have c:W.heap[g]? =some (.cells d t (0,0)):=by rw[<-e2];exact i
 rw[show W.heap[g]? =some (.cells cs' 38 (0,0))from hg]at c;injection c with c;injection c with _ c;exact ne c.symm
theorem CpOk.onlyT{W W':World}{c:CpV}{g:Nat}{cs:Array Value}(h:CpOk W c)(t:CpT W c)(o:Only g W W')(hg:Row W g 38 cs):CpOk W' c:=
 ⟨h.pok.only o (t.va.ne hg (by decide)) (t.ba.ne hg (by decide)),h.bl,h.vl,h.trd.only o (λ_=>t.tA.ne hg (by decide)),λx hx=>⟨(h.tok x hx).len,(h.tok x hx).cap,(h.tok x hx).nil,(h.tok x hx).reads.only o (λ_=>(t.ts x hx).ne hg (by decide)),(h.tok x hx).all⟩,h.tlen,h.tl,h.tnil,h.mrd.only o (λ_=>t.mA.ne hg (by decide)),λx hx=>⟨(h.mok x hx).rd.only o (λ_=>(t.ms x hx).ne hg (by decide)),(h.mok x hx).len,(h.mok x hx).nil,(h.mok x hx).dig⟩,h.mlen,h.mnil⟩
theorem Ek (W:World)(A:Option Addr)(cap:Nat)(l:List Int)(hr:Rd W A (Qi l))(hn:A=none->l=[])(hl:l.length<=100000):∃A' c' W',(Builtin.append_ #[22,22] 22 #[.slice none 0 0,.slice A l.length cap]).run Tryz.prog W=.ok (.slice A' l.length c') W'/\Below W.heap.size W W'/\Rd W' A' (Qi l)/\l.length<=c'/\c'<=maxLen/\(A'=none->c'=0)/\(∀ad,A'=some ad->W.heap.size<=ad.block)/\RowB W' 3 A':=by
 obtain⟨p,o,d,c,g, -⟩:=ZA (P:=Tryz.prog) 22 3 (.int .i64 0) 1 8 Tryz.underlying22 Jc rfl (by decide) (by decide) (World.ownsRow_nil W W.heap.size 3 1) (Nat.le_refl _) hr (m:=l.length) (cap:=cap) (by rw[JZ,Nat.mul_one]) (Jn l) (λe=>by rw[hn e];rfl) (by omega);rw[LG,Lm]at c;obtain⟨A',c',rfl,h,i,j,k,n⟩:=Y1 c;exact⟨A',c',o,d,Uf g,h,i,j,k,n,Xl c⟩
theorem Ajq (W:World)(A:Option Addr)(cap:Nat)(l:List Nd)(hr:Rd W A (l.flatMap Nd.cells))(hn:A=none->l=[])(hl:l.length<=100000):∃A' c' W',(Builtin.append_ #[23,23] 23 #[.slice none 0 0,.slice A l.length cap]).run Tryz.prog W=.ok (.slice A' l.length c') W'/\Below W.heap.size W W'/\Rd W' A' (l.flatMap Nd.cells)/\l.length<=c'/\c'<=maxLen/\(A'=none->c'=0)/\(∀ad,A'=some ad->W.heap.size<=ad.block)/\RowB W' 65 A':=by
 have d:(l.flatMap Nd.cells).length=l.length*2:=by
  clear hr hn hl
  induction l with
  |nil=>rfl
  |cons x l ih=>rw[L8,Le,ih,Lc];show 2+_=_;omega
 obtain⟨t,s,g,c,h, -⟩:=ZA (P:=Tryz.prog) 23 65 (.agg #[.int .i64 0,.int .i64 0]) 2 16 Tryz.underlying23 VX rfl (by decide) (by decide) (World.ownsRow_nil W W.heap.size 65 2) (Nat.le_refl _) hr (m:=l.length) (cap:=cap) d (λu q=>by
  obtain⟨x, -,i⟩:=ND.1 q
  simp only[Nd.cells,Ls,Lw,or_false]at i
  rcases i with rfl|rfl<;>rfl) (λe=>by rw[hn e];rfl) (by omega)
 rw[LG,Lm]at c;obtain⟨A',c',rfl,j,k,n,o,p⟩:=Y1 c;exact⟨A',c',s,g,Uf h,j,k,n,o,p,Xl c⟩
theorem Adp:(Tryz.prog.info? 22).map (λi=>(i.zero,i.size))=some (some (.slice none 0 0),1):=by kernel_rfl
theorem PgV.ok.kp{p:PgV}{W W':World}{X:Nat->Prop}(h:p.ok W)(k:KpX X W W')(h1:Qi p.V≠[]->∀a,p.va=some a->¬X a.block)(h2:p.body.flatMap Nd.cells≠[]->∀a,p.ba=some a->¬X a.block):p.ok W':=
 ⟨h.par,h.vlen,h.vmax,h.vnil,k.rd h.vrd h1,h.vin,h.blen,h.bmax,h.bnil,k.rd h.brd h2,h.bin⟩
end Go.Proofs.YtkoikjnlpifbjaaGreat
namespace Go.Proofs.YtkoikjnlpifbjaaGreat
open Go.RowKit Go.Deep
theorem Ag6 (A B:Option Addr)(c d:Nat)(l:List Nd)(π:List Int)(w:World)(hr:Rd w A (l.flatMap Nd.cells))(hl:l.length<=1000)(hp:Rd w B (Qi π))(hlp:π.length<=1000000):
 Calls Tryz.prog 94 #[.slice A l.length c,.slice B π.length d] w λe w'=>e=.returned (.int .i64 (Xj l π))/\Below w.heap.size w w':=by
 obtain⟨S,m⟩:∃S,S=(λW=>Rd W A (l.flatMap Nd.cells)/\Rd W B (Qi π)/\Below w.heap.size w W):=⟨_,rfl⟩;have z:St S:=by rw[m];infer_instance
 have T0:Hid (∀W,S W->Rd W A (l.flatMap Nd.cells)):=by show ∀W,_;rw[m];exact λW h=>h.1
 have T1:Hid (∀W,S W->Rd W B (Qi π)):=by show ∀W,_;rw[m];exact λW h=>h.2.1
 have T2:Hid (∀W,S W->Below w.heap.size w W):=by show ∀W,_;rw[m];exact λW h=>h.2.2
 have g:S w:=by rw[m];exact⟨hr,hp,Below.refl _ _⟩
 have He:=Lh (JH A c l (0:Int) w hr hl);have Hl:=Lh hl;have ak:(l.length:Int)<=1000:=by omega
 have al:(π.length:Int)<=1000000:=by omega
 clear m hr hp hl hlp;go_enter Tryz.func94,Tryz.ntmps94
 go_wp2_with fail
 go_step3
 go_wp2_with fail
 refine He.out.mono ?_;rintro e w1 ⟨rfl,b1⟩;replace g:=z.go g b1;clear He b1;by_cases o:endZ l 0=(l.length:Int);rotate_left
 ·have af:(endZ l 0 != (l.length:Int))=true:=by simpa using o
  have u:Xj l π= -1:=if_neg o;have q:=Lh u.symm;clear o u;go_wp2_with fail
  try rw[Exit.noGoto_ret]
  go_ret
  exact⟨ZY q.out,T2.out _ g⟩
 have af:(endZ l 0 != (l.length:Int))=false:=by simpa using o
 have u:Xj l π=X2 l 0 π:=if_pos o;have q:=Lh u;clear o u;go_wp2_with fail
 go_step3
 go_wp2_with fail
 go_loopw [5,16] (λac i wr=>∃(a:Int) (k:Nat),ac=.int .i64 a/\i=.int .i64 (k:Int)/\k<=π.length/\Hid (Xj l π=X2 l a (π.drop k))/\S wr) (λ_ i _=>π.length-(intOf i).toNat)
 case atStart=>exact⟨0,0,rfl,by simp,Nat.zero_le _,q.out,g⟩
 case round=>
  clear g q;obtain⟨a,k,rfl,rfl,ai,s,g⟩:=hrel;by_cases x:k<π.length;rotate_left
  ·have ag:¬((k:Int)<(π.length:Int)):=by omega
   obtain rfl:k=π.length:=by omega
   have q:Hid (Xj l π=a):=by have:=s.out;rw[List.drop_length]at this;exact this
   clear x s;go_wp2_with fail
   try rw[Exit.noGoto_ret]
   go_ret
   exact⟨ZY q.out.symm,T2.out _ g⟩
  obtain⟨i,hi⟩:∃i,π[k]? =some i:=⟨_,Lb (by omega)⟩;obtain⟨bd,ad,c0⟩:=Zg (T1.out _ g) hi;subst ad;have aj:(k:Int)<(π.length:Int):=by omega
  have Hi:=Lh hi;have p:=Lh (UF A c l a wr (T0.out _ g) Hl.out);clear hi x;go_wp2_with fail
  refine p.out.mono ?_;rintro e w2 ⟨v,rfl,t,b2⟩;obtain⟨C,cc,rfl,y, -, -, -⟩:=Y0 t;replace g:=z.go g b2;have aa:=Lh y;clear p b2 t y c0;obtain⟨n,hn⟩:∃n,n=(kidsZ l a).length:=⟨_,rfl⟩;have Hn:=Lh hn;rw[<-hn];clear hn;by_cases h0:i<0
  ·have q:Hid (Xj l π= -1):=by rw[Hid,s.out];exact AbJ Hi.out (Or.inl h0)
   clear s;go_wp2_with fail
   try rw[Exit.noGoto_ret]
   go_ret
   exact⟨ZY q.out.symm,T2.out _ g⟩
  by_cases h1:(n:Int)<=i
  ·have q:Hid (Xj l π= -1):=by rw[Hid,s.out];exact AbJ Hi.out (Or.inr (by rw[<-Hn.out];exact h1))
   clear s;go_wp2_with fail
   try rw[Exit.noGoto_ret]
   go_ret
   exact⟨ZY q.out.symm,T2.out _ g⟩
  obtain⟨j,rfl⟩:∃j:Nat,i=(j:Int):=⟨i.toNat,by omega⟩;obtain⟨b,hb⟩:∃b,(kidsZ l a)[j]? =some b:=⟨_,Lb (by have:=Hn.out;omega)⟩;obtain⟨cd,ae,c2⟩:=Zg aa.out hb;subst ae;have ab:Hid (Xj l π=X2 l b (π.drop (k+1))):=by rw[Hid,s.out];exact Ai8 Hi.out hb
  have ah:(j:Int)<(n:Int):=by omega
  clear s hb;go_wp2_with fail
  refine⟨⟨b,k+1,rfl,by simp,by omega,ab,g⟩,?_⟩;simp only[intOf];omega
def ZL (p:PgV)(q n:Int):Array Value:=#[.int .i64 p.params,.slice p.va p.V.length p.vcap,.slice p.ba p.body.length p.bcap,.int .i64 q,.int .i64 n]
theorem Aer{w:World}:(zeroValue 65).run Tryz.prog w=.ok (.agg #[.int .i64 0,.int .i64 0]) w:=by kernel_rfl
theorem K7 (p:PgV)(q:Nat)(n:Int)(x:Nd)(w:World)(hx:p.body[q]? =some x)(hok:p.ok w):
 Calls Tryz.prog 128 #[.agg (ZL p q n)] w λe w'=>e=.returned (.agg #[.int .i64 x.tag,.int .i64 x.n])/\Below w.heap.size w w':=by
 obtain⟨pa,va,vc,V,ba,bc,body⟩:=p;obtain⟨d,c,o⟩:=J6 hok.brd hx;have c:ba=some d:=c;subst c;have hx:body[q]? =some x:=hx;have hq:=(La.1 hx).1;have ab:(q:Int)<(body.length:Int):=by omega
 have z:Hid (∀W,Below w.heap.size w W->∀j u,x.cells[j]? =some u->W.cell? ((d.add (q*2)).add j)=some u):=λW b=>by
  obtain⟨aa,e,o⟩:=J6 (hok.go b).brd hx;injection e with e;subst e;exact o
 clear o hx hok hq;go_enter Tryz.func128,Tryz.ntmps128
 go_wp2_with (refine Qq _ _ rfl ?_)
 refine Stop.to ?_;refine Qe rfl 148 _ rfl (ZL ⟨pa,va,vc,V,some d,bc,body⟩ q n) rfl ?_;intro G Gw y k t;go_wp2_with (first|fail| (refine QH _ rfl ?_))
 refine Stop.to ?_;refine Qj rfl 65 rfl _ _ Aer rfl ?_;intro J Jw g Jr m;have s:=k.below m (Lg k.lt g);have h:=(Below.refl w.heap.size w).trans (t.mono y);have b2:=h.trans ((m.mono g).mono h.size);have hJ:w.heap.size<=J:=Ld h.size g;have c2:=s.cellv (i:=2) (v:=.slice (some d) body.length bc) rfl;have c3:=s.cellv (i:=3) (v:=.int .i64 q) rfl;have l:=Lh (z.out _ b2);clear k t m h y g s z;go_wp2_with (first| (refine QT rfl 65 _ rfl (d.add (q*2)) rfl x.cells _ l.out Tryz.underlying65 rfl (by kernel_rfl) ?_)| (refine Qs 65 _ _ rfl ?_))
 refine Stop.to ?_;refine Qk rfl 65 _ _ rfl J #[.int .i64 x.tag,.int .i64 x.n] rfl rfl 65 _ Jr (by kernel_rfl) rfl (by simp[Value.oneCell']) ?_;intro W9 r9 o9;go_wp2_with fail
 refine bodyPost_ret (results_cell_row Tryz.results128 _ _ J 65 _ (0,0) _ rfl r9 Tryz.underlying65 rfl (by kernel_rfl)) rfl ?_;exact⟨rfl,b2.trans (o9.below hJ)⟩
theorem YW (a b:Int)(w:World):(Instr.field 65 (.agg #[.int .i64 a,.int .i64 b]) 0).run Tryz.prog w=.ok (.int .i64 a) w:=by kernel_rfl
theorem Abh (a b:Int)(w:World):(Instr.field 65 (.agg #[.int .i64 a,.int .i64 b]) 1).run Tryz.prog w=.ok (.int .i64 b) w:=by kernel_rfl
theorem Agv (p:PgV)(q:Nat)(n lo hi:Int)(x:Nd)(w:World)(hx:p.body[q]? =some x)(hok:p.ok w)(h1:lo<=x.tag)(h2:x.tag<=hi)(h3:lo<=n)(h4:n<=hi):
 Calls Tryz.prog 162 #[.agg (ZL p q n),.int .i64 lo,.int .i64 hi] w λe w'=>e=.returned (.bool true)/\Below w.heap.size w w':=by
 have m:Hid (∀W,Below w.heap.size w W->Calls Tryz.prog 128 #[.agg (ZL p q n)] W λe w'=>e=.returned (.agg #[.int .i64 x.tag,.int .i64 x.n])/\Below W.heap.size W w'):=λW b=>K7 p q n x W hx (hok.go b);clear hx hok;have u:=YW x.tag x.n;go_enter Tryz.func162,Tryz.ntmps162
 go_wp2_with (refine Qq _ _ rfl ?_)
 refine Stop.to ?_;refine Qe rfl 148 _ rfl (ZL p q n) rfl ?_;intro G s k d j;have g:=(Below.refl w.heap.size w).trans (j.mono k);have l:=Lh (m.out _ g);clear j k m;go_wp2_with (refine wpList_load_row rfl 148 _ rfl G rfl 148 (ZL p q n) (0,0) _ d Tryz.underlying148 rfl (by kernel_rfl) ?_)
 refine l.out.mono ?_;rintro e y ⟨rfl,h⟩;have c:=d.below h d.lt;have o:=g.trans (h.mono g.size);have t:=c.cellv (i:=4) (v:=.int .i64 n) rfl;clear d c g h l;go_wp2_with fail
 go_ret
 exact⟨rfl,o⟩
theorem AkS (W:World):(Instr.buildSlice 23 0 #[]).run Tryz.prog W=.ok (.slice (some ⟨W.heap.size,0,none⟩) 0 0) (W.alloc (.cells #[] 65)):=by kernel_rfl
theorem Ex (A:Option Addr)(cap:Nat)(l:List Nd)(w:World)(hr:Rd w A (l.flatMap Nd.cells))(hnil:A=none->l=[])(hl:l.length<=100000):
 Calls Tryz.prog 132 #[.slice A l.length cap] w λe w'=>NdsR l w w' e:=by
 rcases A with _|p
 ·have s:=hnil rfl;subst s;have k:=λW:World=>Lib.run_eql_slice_nil (P:=Tryz.prog) W 23 65 none 0 cap 0 0 Tryz.underlying23
  simp only[Option.isNone_none]at k;rw[show([]:List Nd).length=0 from rfl];go_enter Tryz.func132,Tryz.ntmps132
  go_wp2_with fail
  go_ret
  exact⟨_,rfl,World.ownsRow_nil _ _ _ _,Below.refl _ _⟩
 ·have o:=Lh hr;have n:=Lh hl;clear hr hl hnil;have k:=λW:World=>Lib.run_eql_slice_nil (P:=Tryz.prog) W 23 65 (some p) l.length cap 0 0 Tryz.underlying23
  simp only[Option.isNone_some]at k;go_enter Tryz.func132,Tryz.ntmps132
  go_wp2_with (refine ZJ _ _ _ rfl ?_)
  refine Stop.to ?_;refine Zm rfl _ (Q0 [] rfl (AkS w)) ?_;have j:=Row.new w 65 #[];have h:=(Below.refl w.heap.size w).alloc (Nat.le_refl _) (.cells #[] 65);generalize w.alloc (.cells #[] 65)=w1 at j h|-;obtain⟨v,x,d,c,i,_⟩:=ZA (P:=Tryz.prog) 23 65 (.agg #[.int .i64 0,.int .i64 0]) 2 16 Tryz.underlying23 VX rfl (by decide) (by decide) (Yk (B:=w.heap.size) (size:=2) (Nat.le_refl _) j) h.size (o.out.go h) (m:=l.length) (cap:=cap) (by rw[Z7]) (Eb l) (by simp) (by have:=n.out;omega);rw[LG,Lm]at c;have q:=QL h (Yk (B:=w.heap.size) (size:=2) (Nat.le_refl _) j) i h.size (Nat.le_refl _);have g:=Lh d;clear d i j;go_wp2_with (refine XR ?_)
  refine Stop.to ?_;refine Zm rfl _ (QE rfl g.out) ?_;obtain⟨t,u,rfl⟩:=Zq c;go_wp2
  go_ret
  exact⟨_,rfl,c,q⟩
theorem Adf:∀{l:List Nd} {q:Nat} (y:Nd),q<l.length->(l.set q y).flatMap Nd.cells=(l.flatMap Nd.cells).take (q*2)++(y.cells++(l.flatMap Nd.cells).drop (q*2+2))
 |[],_,_,h=>by simp at h
 |x::l,0,y,_=>by simp[Nd.cells]
 |x::l,q+1,y,h=>by
  have ih:=Adf (l:=l) (q:=q) y (by simpa using h)
  rw[List.set_cons_succ,L8,L8,ih]
  have e:(q+1)*2=2+q*2:=by omega
  have e2:(q+1)*2+2=2+(q*2+2):=by omega
  have hx:x.cells.length=2:=rfl
  have d1:List.drop (2+(q*2+2)) (x.cells++l.flatMap Nd.cells)=List.drop (q*2+2) (l.flatMap Nd.cells):=by rw[<-Nj,List.drop_left' hx]
  have d2:List.take (2+q*2) (x.cells++l.flatMap Nd.cells)=x.cells++(l.flatMap Nd.cells).take (q*2):=by rw[List.take_add,Nt hx,List.drop_left' hx]
  rw[e2,d1,e,d2,Ly]
theorem AiF{W:World}{B n:Nat}{v:Value}{l:List Nd}(h:W.ownsRow B 65 2 v n (l.flatMap Nd.cells)){q:Nat}(hq:q<n):
 ∃g cap cur,v=.slice (some ⟨g,0,none⟩) n cap/\B<=g/\n<=cap/\Row W g 65 cur/\q*2+2<=cur.size/\∀(W':World) (y:Nd),Row W' g 65 (ZS cur (q*2) y.cells)->W'.ownsRow B 65 2 v n ((l.set q y).flatMap Nd.cells):=by
 obtain⟨o,p⟩:=h;have u:l.length=n:=by rw[Z7]at o;omega
 rcases p with⟨_,h0⟩|⟨g,cap,cur,j,e,t,i,w,z,ht⟩
 ·omega
 refine⟨g,cap,cur,j,e,i,t,by omega,λW' y x=>⟨by rw[Z7,LM,u],.inr ⟨g,cap,_,j,e,x,i,w,?_,?_⟩⟩⟩
 ·unfold ZS;have c:y.cells.length=2:=rfl;simp only[Lk,Le,L1,LO,LU,c];omega
 ·have c:y.cells.length=2:=rfl;have s:cur.toList.length=cap*2:=by rw[LU,z]
  have d:(cur.toList.take (q*2)).length=q*2:=by rw[L1];omega
  rw[Adf y (by omega), <-ht];unfold ZS;rw[List.toList_toArray,c];have k:(cur.toList.take (n*2)).take (q*2)=cur.toList.take (q*2):=by rw[NA,NI (by omega)]
  have m:(cur.toList.take (n*2)).drop (q*2+2)=(cur.toList.drop (q*2+2)).take (n*2-(q*2+2)):=by rw[List.drop_take]
  have t1:(cur.toList.take (q*2)).take (n*2)=cur.toList.take (q*2):=L7 (by omega);have t2:y.cells.take (n*2-q*2)=y.cells:=L7 (by omega);rw[k,m,Ly,List.take_append,d,t1,List.take_append,t2,c,Nat.sub_sub]
theorem Ac6 (p:PgV)(q:Nat)(n:Int)(y:Nd)(w:World)(hq:q<p.body.length)(hbl:p.body.length<=1000)(hok:p.ok w):
 Calls Tryz.prog 129 #[.agg (ZL p q n),.agg #[.int .i64 y.tag,.int .i64 y.n]] w λe w'=>NdsR (p.body.set q y) w w' e:=by
 have c:=Lh hok;have Hq:=Lh hq;have x:=Lh hbl;have ac:(q:Int)<(p.body.length:Int):=by omega
 clear hok hbl hq;go_enter Tryz.func129,Tryz.ntmps129
 go_wp2_with (refine Qq _ _ rfl ?_)
 refine Stop.to ?_;refine Qe rfl 148 _ rfl (ZL p q n) rfl ?_;intro G Gw Gh u Gb;go_wp2_with (refine Qq _ _ rfl ?_)
 refine Stop.to ?_;refine Qe rfl 65 _ rfl #[.int .i64 y.tag,.int .i64 y.n] rfl ?_;intro J Jw Jh Jr z;have t:=u.below z (Lg u.lt Jh);have b1:=(Below.refl w.heap.size w).trans (Gb.mono Gh);have l:=b1.trans ((z.mono Jh).mono b1.size);have c2:=t.cellv (i:=2) (v:=.slice p.ba p.body.length p.bcap) rfl;have j:=Lh (Ex p.ba p.bcap p.body Jw (c.out.go l).brd (λe=>Lt (by have h1:=c.out.blen;have h2:=c.out.bnil e;omega)) (by have:=x.out;omega));clear Gb z b1 Gh Jh u c;go_wp2_with fail
 refine j.out.mono ?_;rintro e w1 ⟨v,rfl,d,s⟩;obtain⟨g,aa,m,rfl,hb,hc,hr,hs,h⟩:=AiF d Hq.out;have o:=t.below s t.lt;have ab:=Jr.below s Jr.lt;have b4:=l.trans (s.mono l.size);have c3:=o.cellv (i:=3) (v:=.int .i64 q) rfl;have k:=Lh h;have hg:w.heap.size<=g:=Ld l.size hb;clear j d h t Jr c2 s o hb;go_wp2_with (first| (refine wpList_load_row rfl 65 _ rfl J rfl 65 #[.int .i64 y.tag,.int .i64 y.n] (0,0) _ ab Tryz.underlying65 rfl (by kernel_rfl) ?_)| (refine Qs 65 _ _ rfl ?_))
 refine Stop.to ?_;refine Qm rfl 65 _ _ rfl g (q*2) (by first|rfl|simp[Addr.add]) (.agg #[.int .i64 y.tag,.int .i64 y.n]) rfl y.cells rfl 65 m _ hr (by kernel_rfl) (by show q*2+2<=m.size;exact hs) (by simp[Nd.cells,Value.oneCell']) rfl ?_
 intro W9 r9 o9;have HF:Hid (NdsR (p.body.set q y) w W9 (.returned (.slice (some ⟨g,0,none⟩) p.body.length aa))):=⟨_,rfl,by rw[LM];exact QR (k.out W9 y r9) l.size,b4.trans (o9.below hg)⟩;go_wp2_with fail
 go_ret
 exact HF.out
theorem EB (p:PgV)(q:Nat)(n lo hi:Int)(x:Nd)(w:World)(hx:p.body[q]? =some x)(hbl:p.body.length<=1000)(hok:p.ok w)(h1:lo<=x.tag)(h2:x.tag<=hi)(h3:lo<=n)(h4:n<=hi):
 Calls Tryz.prog 127 #[.agg (ZL p q n),.int .i64 lo,.int .i64 hi] w λe w'=>NdsR (p.body.set q ⟨n,x.n⟩) w w' e:=by
 obtain⟨S,j⟩:∃G0:Nat->World->Prop,G0=(λG W=>Row W G 148 (ZL p q n)/\p.ok W/\Below w.heap.size w W):=⟨_,rfl⟩;have l:∀G,St (S G):=by intro G;rw[j];infer_instance
 have T0:Hid (∀G W,S G W->Row W G 148 (ZL p q n)):=by show ∀G W,_;rw[j];exact λG W h=>h.1
 have T1:Hid (∀G W,S G W->p.ok W):=by show ∀G W,_;rw[j];exact λG W h=>h.2.1
 have T2:Hid (∀G W,S G W->Below w.heap.size w W):=by show ∀G W,_;rw[j];exact λG W h=>h.2.2
 have s:Hid (∀G W,Row W G 148 (ZL p q n)->Below w.heap.size w W->S G W):=by show ∀G W,_;rw[j];exact λG W r b=>⟨r,hok.go b,b⟩
 have Hx:=Lh hx;have z:=Lh hbl;have t:=Lh (And.intro (And.intro h1 h2) (And.intro h3 h4));have f1:=Abh x.tag x.n;clear j hok hx hbl h1 h2 h3 h4;go_enter Tryz.func127,Tryz.ntmps127
 go_wp2_with (refine Qq _ _ rfl ?_)
 refine Stop.to ?_;refine Qe rfl 148 _ rfl (ZL p q n) rfl ?_;intro G Gw Gh y Gb;have b1:=(Below.refl w.heap.size w).trans (Gb.mono Gh);have o:=s.out G Gw y b1;replace l:=l G;have m:=Lh (Agv p q n lo hi x Gw Hx.out (T1.out G _ o) t.out.1.1 t.out.1.2 t.out.2.1 t.out.2.2);clear Gb Gh b1 s;go_wp2_with (refine wpList_load_row rfl 148 _ rfl G rfl 148 (ZL p q n) (0,0) _ y Tryz.underlying148 rfl (by kernel_rfl) ?_)
 refine m.out.mono ?_;rintro e w1 ⟨rfl,b2⟩;replace o:=l.go o b2;clear y m b2;go_wp2_with fail
 refine ZG (S G) 7 (by kernel_rfl) (by kernel_rfl) (St.drew o) ?_;clear o;simp only[L0,LE,Lz,LA];(refine Zp rfl 148 _ rfl (G) rfl 148 _ _ (T0.out G) Tryz.underlying148 rfl (by kernel_rfl) ?_;simp only[Act.put,Qa,Qb,Qc]);(refine Qg rfl ?_ (λW k=>?_) ?_;rotate_left;(focus(go_simp;exact rfl));simp only[Act.put,Qa,Qb,Qc]);(refine Qg rfl ?_ (λW k=>?_) ?_;rotate_left;(focus(have c:=(T0.out G W k).cellv (i:=4) (v:=.int .i64 n) rfl;go_simp;exact rfl));simp only[Act.put,Qa,Qb,Qc]);(refine Zp rfl 148 _ rfl (G) rfl 148 _ _ (T0.out G) Tryz.underlying148 rfl (by kernel_rfl) ?_;simp only[Act.put,Qa,Qb,Qc]);(refine Q8 rfl 128 _ (λW=>by(go_simp;try rfl)) (.agg #[.int .i64 x.tag,.int .i64 x.n]) (λW k=>K7 p q n x W Hx.out (T1.out G W k)) ?_;simp only[Act.put,Qa,Qb,Qc])
 (refine Qg rfl (.int .i64 x.n) (λW k=>Aan rfl _ (Abh x.tag x.n W)) ?_;simp only[Act.put,Qa,Qb,Qc]);(refine Qg rfl ?_ (λW k=>?_) ?_;rotate_left;(focus(go_simp;exact rfl));simp only[Act.put,Qa,Qb,Qc]);refine Q4 λW k=>?_
 have m:=Lh (Ac6 p q n ⟨n,x.n⟩ W (La.1 Hx.out).1 z.out (T1.out G W k));go_wp2_with fail
 refine m.out.mono ?_;rintro e w2 ⟨v,rfl,g,b3⟩;have u:=T2.out G W k;have d:=QR g u.size;rw[LM]at g d;have HB:=Lh (u.trans (b3.mono u.size));obtain⟨A3,c3,rfl⟩:=Zq g;have HF:=Lh d;clear g d b3 u m;go_wp2_with fail
 go_ret
 exact⟨_,rfl,by rw[LM];exact HF.out,HB.out⟩
theorem Aez (p:PgV)(q:Nat)(n:Int)(x:Nd)(w:World)(hx:p.body[q]? =some x)(hbl:p.body.length<=1000)(hok:p.ok w)(h:(7<=x.tag/\x.tag<=11)/\7<=n/\n<=11):
 Calls Tryz.prog 87 #[.agg (ZL p q n)] w λe w'=>NdsR (p.body.set q ⟨n,x.n⟩) w w' e:=by
 have l:Hid (∀W,Below w.heap.size w W->Calls Tryz.prog 127 #[.agg (ZL p q n),.int .i64 7,.int .i64 11] W λe w'=>NdsR (p.body.set q ⟨n,x.n⟩) W w' e):=λW b=>EB p q n 7 11 x W hx hbl (hok.go b) h.1.1 h.1.2 h.2.1 h.2.2;clear hx hbl hok h;go_enter Tryz.func87,Tryz.ntmps87
 go_wp2_with (refine Qq _ _ rfl ?_)
 refine Stop.to ?_;refine Qe rfl 148 _ rfl (ZL p q n) rfl ?_;intro G u j k i;have g:=(Below.refl w.heap.size w).trans (i.mono j);have H:=Lh (l.out _ g);clear l i j;go_wp2_with (refine wpList_load_row rfl 148 _ rfl G rfl 148 (ZL p q n) (0,0) _ k Tryz.underlying148 rfl (by kernel_rfl) ?_)
 refine H.out.mono ?_;rintro e z ⟨v,rfl,d,m⟩;have c:=QR d g.size;rw[LM]at d c;have o:=Lh (g.trans (m.mono g.size));obtain⟨t,y,rfl⟩:=Zq d;have s:=Lh c;clear d c m g H k;go_wp2_with fail
 go_ret
 exact⟨_,rfl,by rw[LM];exact s.out,o.out⟩
theorem AhT (p:PgV)(q:Nat)(n:Int)(x:Nd)(w:World)(hx:p.body[q]? =some x)(hbl:p.body.length<=1000)(hok:p.ok w)(h:(12<=x.tag/\x.tag<=17)/\12<=n/\n<=17):
 Calls Tryz.prog 88 #[.agg (ZL p q n)] w λe w'=>NdsR (p.body.set q ⟨n,x.n⟩) w w' e:=by
 have l:Hid (∀W,Below w.heap.size w W->Calls Tryz.prog 127 #[.agg (ZL p q n),.int .i64 12,.int .i64 17] W λe w'=>NdsR (p.body.set q ⟨n,x.n⟩) W w' e):=λW b=>EB p q n 12 17 x W hx hbl (hok.go b) h.1.1 h.1.2 h.2.1 h.2.2;clear hx hbl hok h;go_enter Tryz.func88,Tryz.ntmps88
 go_wp2_with (refine Qq _ _ rfl ?_)
 refine Stop.to ?_;refine Qe rfl 148 _ rfl (ZL p q n) rfl ?_;intro G u j k i;have g:=(Below.refl w.heap.size w).trans (i.mono j);have H:=Lh (l.out _ g);clear l i j;go_wp2_with (refine wpList_load_row rfl 148 _ rfl G rfl 148 (ZL p q n) (0,0) _ k Tryz.underlying148 rfl (by kernel_rfl) ?_)
 refine H.out.mono ?_;rintro e z ⟨v,rfl,d,m⟩;have c:=QR d g.size;rw[LM]at d c;have o:=Lh (g.trans (m.mono g.size));obtain⟨t,y,rfl⟩:=Zq d;have s:=Lh c;clear d c m g H k;go_wp2_with fail
 go_ret
 exact⟨_,rfl,by rw[LM];exact s.out,o.out⟩
theorem AeL (p:PgV)(q:Nat)(n:Int)(x:Nd)(w:World)(hx:p.body[q]? =some x)(hbl:p.body.length<=1000)(hok:p.ok w)(h:(18<=x.tag/\x.tag<=19)/\18<=n/\n<=19):
 Calls Tryz.prog 89 #[.agg (ZL p q n)] w λe w'=>NdsR (p.body.set q ⟨n,x.n⟩) w w' e:=by
 have l:Hid (∀W,Below w.heap.size w W->Calls Tryz.prog 127 #[.agg (ZL p q n),.int .i64 18,.int .i64 19] W λe w'=>NdsR (p.body.set q ⟨n,x.n⟩) W w' e):=λW b=>EB p q n 18 19 x W hx hbl (hok.go b) h.1.1 h.1.2 h.2.1 h.2.2;clear hx hbl hok h;go_enter Tryz.func89,Tryz.ntmps89
 go_wp2_with (refine Qq _ _ rfl ?_)
 refine Stop.to ?_;refine Qe rfl 148 _ rfl (ZL p q n) rfl ?_;intro G u j k i;have g:=(Below.refl w.heap.size w).trans (i.mono j);have H:=Lh (l.out _ g);clear l i j;go_wp2_with (refine wpList_load_row rfl 148 _ rfl G rfl 148 (ZL p q n) (0,0) _ k Tryz.underlying148 rfl (by kernel_rfl) ?_)
 refine H.out.mono ?_;rintro e z ⟨v,rfl,d,m⟩;have c:=QR d g.size;rw[LM]at d c;have o:=Lh (g.trans (m.mono g.size));obtain⟨t,y,rfl⟩:=Zq d;have s:=Lh c;clear d c m g H k;go_wp2_with fail
 go_ret
 exact⟨_,rfl,by rw[LM];exact s.out,o.out⟩
theorem AeC (p:PgV)(q:Nat)(n:Int)(x:Nd)(w:World)(hx:p.body[q]? =some x)(hbl:p.body.length<=1000)(hok:p.ok w)(h:x.tag=1\/(x.tag=2/\0<=n/\n<=1)):
 Calls Tryz.prog 90 #[.agg (ZL p q n)] w λe w'=>NdsR (p.body.set q ⟨x.tag,n⟩) w w' e:=by
 have z:Hid (∀W,Below w.heap.size w W->Calls Tryz.prog 128 #[.agg (ZL p q n)] W λe w'=>e=.returned (.agg #[.int .i64 x.tag,.int .i64 x.n])/\Below W.heap.size W w'):=λW b=>K7 p q n x W hx (hok.go b);have Hp:Hid (∀W,Below w.heap.size w W->Calls Tryz.prog 129 #[.agg (ZL p q n),.agg #[.int .i64 x.tag,.int .i64 n]] W λe w'=>NdsR (p.body.set q ⟨x.tag,n⟩) W w' e):=λW b=>Ac6 p q n ⟨x.tag,n⟩ W (La.1 hx).1 hbl (hok.go b);obtain⟨t,m⟩:=x;dsimp only at h z Hp;clear hx hok hbl;go_enter Tryz.func90,Tryz.ntmps90
 go_wp2_with (refine Qq _ _ rfl ?_)
 refine Stop.to ?_;refine Qe rfl 148 _ rfl (ZL p q n) rfl ?_;intro G Gw Gh o Gb;have s:=(Below.refl w.heap.size w).trans (Gb.mono Gh);have Hc:=Lh (z.out _ s);clear Gb Gh z;go_wp2_with (refine wpList_load_row rfl 148 _ rfl G rfl 148 (ZL p q n) (0,0) _ o Tryz.underlying148 rfl (by kernel_rfl) ?_)
 refine Hc.out.mono ?_;rintro e w1 ⟨rfl,b2⟩;have k:=o.below b2 o.lt;have b3:=s.trans (b2.mono s.size);clear o s b2 Hc;go_wp2_with (first|fail| (refine QH _ rfl ?_))
 refine Stop.to ?_;refine Qj rfl 65 rfl _ _ Aer rfl ?_;intro J Jw Jh Jr Jb;go_wp2_with (refine Qs 65 _ _ rfl ?_)
 refine Stop.to ?_;refine Qk rfl 65 _ _ rfl J #[.int .i64 t,.int .i64 m] rfl rfl 65 _ Jr (by kernel_rfl) rfl (by simp[Value.oneCell']) ?_;intro W9 r9 o9;have bJ:=(Below.refl w1.heap.size w1).trans (Jb.mono Jh);have bK:=bJ.trans (o9.below Jh);have g:=k.below bK k.lt;have j:=b3.trans (bK.mono b3.size);have c0:=r9.cellv (i:=0) (v:=.int .i64 t) rfl;have c4:=g.cellv (i:=4) (v:=.int .i64 n) rfl;have g0:=g.cellv (i:=0) (v:=.int .i64 p.params) rfl;have g1:=g.cellv (i:=1) (v:=.slice p.va p.V.length p.vcap) rfl;have g2:=g.cellv (i:=2) (v:=.slice p.ba p.body.length p.bcap) rfl;have g3:=g.cellv (i:=3) (v:=.int .i64 q) rfl;have H:=Lh (Hp.out _ j);clear k b3 bJ bK Jr Jb Jh o9 r9 Hp;rcases h with rfl|⟨rfl,h5,h6⟩
 ·go_wp2_with fail
  refine H.out.mono ?_;rintro e w2 ⟨v,rfl,d,l⟩;have c:=QR d j.size;rw[LM]at d c;have u:=Lh (j.trans (l.mono j.size));obtain⟨A3,c3,rfl⟩:=Zq d;have y:=Lh c;clear d c l j H;go_wp2_with fail
  go_ret
  exact⟨_,rfl,by rw[LM];exact y.out,u.out⟩
 ·go_wp2_with fail
  refine H.out.mono ?_;rintro e w2 ⟨v,rfl,d,l⟩;have c:=QR d j.size;rw[LM]at d c;have u:=Lh (j.trans (l.mono j.size));obtain⟨A3,c3,rfl⟩:=Zq d;have y:=Lh c;clear d c l j H;go_wp2_with fail
  go_ret
  exact⟨_,rfl,by rw[LM];exact y.out,u.out⟩
end Go.Proofs.YtkoikjnlpifbjaaGreat
