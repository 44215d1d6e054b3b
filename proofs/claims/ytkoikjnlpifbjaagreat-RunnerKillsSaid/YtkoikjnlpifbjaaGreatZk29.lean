/- Lemmas for RunnerKillsP. -/
import Derived.Test.YtkoikjnlpifbjaaGreatZk27
import Derived.Test.YtkoikjnlpifbjaaGreatZk28
import Derived.Test.YtkoikjnlpifbjaaGreatZk25
import Derived.Test.YtkoikjnlpifbjaaGreatZk26
import Derived.Test.YtkoikjnlpifbjaaGreatZk8
import Derived.Test.YtkoikjnlpifbjaaGreatZk3
import Derived.Test.YtkoikjnlpifbjaaGreatZk24
import Derived.Test.YtkoikjnlpifbjaaGreatZk1
import Derived.Laws.Tables
import Derived.Test.YtkoikjnlpifbjaaGreatRows
import Derived.Maps.OwnIn
import Derived.Lib.AppendStr
set_option linter.unusedVariables false
set_option linter.unusedSimpArgs false
set_option maxRecDepth 100000
set_option maxHeartbeats 16000000
namespace Go.Proofs.YtkoikjnlpifbjaaGreat
open Go.RowKit Go.Deep
theorem KO{p:PgV}{n:Nat}{fuel:Int}(h:Q7 p n fuel=0):∃t,Good p t/\(n:Int)=p.params/\0<=fuel/\fuel<=10000:=by
 by_cases d:∃t,Good p t
 ·obtain⟨t,c⟩:=d;rw[JU c]at h;refine⟨t,c,?_⟩;split at h
  ·cases h
  ·split at h
   ·cases h
   ·omega
 ·rw[JV (λt c=>d ⟨t,c⟩)]at h;cases h
theorem AdH (p:PgV)(t:Tr)(aa:Option Addr)(acap:Nat)(args:List Int)(fuel:Int)(fin:Mm)(w:World)(hbl:p.body.length<=1000)(hn:args.length<=1000)(hok:p.ok w)(hra:Rd w aa (Qi args))(hg:Good p t)
 (hc:Q7 p args.length fuel=0) (hfin:Reach (Z2 0 t ⟨Zk p.V args fuel.toNat,[]⟩) fin) (ho:fin.s.out.isSome=true):
 Calls Tryz.prog 72 #[.agg p.cells,.slice aa args.length acap,.int .i64 fuel] w λe w'=>RunR fin w w' e:=by
 obtain⟨_,_,d,g⟩:=KO hc;exact Air p t aa acap args fuel fin w hbl hn hok hg hc (λw' c b=>AgX p aa acap args fuel w' hbl hn c hg.vars d g (hra.go b)) hfin ho
theorem AdG (p:PgV)(aa:Option Addr)(acap n:Nat)(fuel:Int)(w:World)(hbl:p.body.length<=1000)(hn:n<=1000)(hok:p.ok w)(hc:Q7 p n fuel≠0):
 Calls Tryz.prog 72 #[.agg p.cells,.slice aa n acap,.int .i64 fuel] w λe w'=>e=.returned (.tuple #[.agg #[.int .i64 0,.int .i64 0,.int .i64 0,.slice none 0 0],.int .i64 (Q7 p n fuel)])/\Below w.heap.size w w':=by
 have q:=Lh hok;have m:=Lh hbl;have z:=Lh hn;obtain⟨cz,g⟩:∃cz,Q7 p n fuel=cz:=⟨_,rfl⟩;have o:=Lh g;rw[g]at hc|-;have ec:(cz==0)=false:=by simpa using hc
 clear hok hbl hn g hc;go_enter Tryz.func72,Tryz.ntmps72
 go_wp2_with (refine Qq _ _ rfl ?_)
 refine Stop.to ?_;refine Qe rfl 25 _ rfl p.cells rfl ?_;intro G w1 v k h;replace h:=(Below.refl w.heap.size w).trans (h.mono v);clear v;go_wp2_with (refine QH _ rfl ?_)
 refine Stop.to ?_;refine Qj rfl 114 rfl _ _ Kd rfl ?_;intro RB w2 c x i;replace k:=k.below (i.mono c) k.lt;have j:w.heap.size<=RB:=Ld h.size c;replace i:=h.trans ((i.mono c).mono h.size);have u:=Lh k;have d:=Lh x;have l:=Lh i;clear k h i x c;go_wp2_with fail
 refine wp_scope_straight ?_;go_wp2_with (refine wpList_load_row rfl 25 _ rfl G rfl 25 p.cells (0,0) _ u.out Tryz.underlying25 rfl (by kernel_rfl) ?_)
 refine(Yi p aa acap n fuel m.out z.out w2 (q.out.go l.out)).mono ?_;rintro e w3 ⟨rfl,t⟩;rw[o.out];have s:=Lh (d.out.below t d.out.lt);have y:=Lh (l.out.trans (t.mono l.out.size));clear t u d l;go_wp2_with (refine Qs _ _ _ rfl ?_)
 refine Stop.to ?_;refine Qk rfl 114 _ _ rfl RB #[.int .i64 0,.int .i64 0,.int .i64 0,.slice none 0 0] rfl rfl 114 _ s.out (by kernel_rfl) rfl (XE 0 0 0 rfl) ?_;intro W9 r9 o9;go_wp2_with fail
 rw[Exit.noGoto_ret];refine bodyPost_ret (QZ Tryz.results72 _ _ RB 114 _ (0,0) _ rfl r9 Tryz.underlying114 rfl (by kernel_rfl)) rfl ?_;exact⟨rfl,Qp y.out o9 j⟩
theorem Aix{p:PgV}{t:Tr}{w:World}(hok:p.ok w)(hg:Good p t):okO p.V t:=by
 refine⟨hg.hat.fits,by rw[hg.kind];omega,λx d=>?_⟩;obtain⟨r,c⟩:=hg.hat.here;rw[LA]at c;exact(hok.bin x (by rw[c];exact List.mem_append_left _ d)).2
theorem Ahz{p:PgV}{t:Tr}{w:World}{args:List Int}{F:Nat}(hok:p.ok w)(hg:Good p t)(hv:Xt p.params p.V)(hl:(args.length:Int)=p.params)(hin:∀a∈args,InI a):OkS p.V (Zk p.V args F):=by
 refine⟨by simp[Zk,Kn],by simp[Zk,En],λi t v g c=>?_,λi t a g c=>?_,λe j=>by simp[Zk]at j,λk v h=>by simp[Zk]at h,by have:=hv.2.2.1;omega⟩
 ·have d:i<p.V.length:=(La.1 g).1;simp only[Zk,Kn,L4,List.getElem?_range d,Nq,Nc]at c;subst c;by_cases hi:i<args.length
  ·have e:args.getD i 0=args[i]:=by simp[List.getD,Lb hi]
   refine⟨by rw[e];exact hin _ (List.getElem_mem _),λm=>?_⟩;have:=hv.2.2.2 i d;rw[LJ,g,LL]at this;simp only[Yp,decide_eq_true_eq]at this;omega
  ·have e:args.getD i 0=0:=by simp[List.getD,Nh (show args.length<=i by omega)]
   rw[e];exact⟨Jf,λ_=>.inl rfl⟩
 ·simp only[Zk,En,L4,g,Nq,Nc]at c;subst c;refine⟨?_,λx l=>?_⟩
  ·rw[Nm];unfold QC;split<;>omega
  ·rw[(List.mem_replicate.1 l).2];exact Jf
theorem RChg.new{L:Lay}{B:Nat}{W W':World}{ev':Value}(h:RChg L (.slice none 0 0) W ev' W')(n:LNew B L)(hB:B<=W.heap.size):Below B W W':=
 ⟨h.os,h.tape,h.output,h.size,λk hk=>h.block k (by omega) (by have:=n.m;omega) (λe=>by have:=n.vv k e;omega) (λe=>by have:=n.ab k e;omega) (by simp[Value.ownBlock])⟩
structure Kept (L:Lay)(W:World)(g:Nat)(t:TypeId)(cs:Array Value):Prop where
 row:Row W g t cs
 m:g≠L.M
 vv:L.vv.ownBlock≠some g
 ab:g∉L.ab
theorem Kept.go{L:Lay}{W W':World}{g:Nat}{t:TypeId}{cs:Array Value}{ev':Value}(h:Kept L W g t cs)(c:RChg L (.slice none 0 0) W ev' W'):Row W' g t cs:=
 (c.block g h.row.lt h.m h.vv h.ab (by simp[Value.ownBlock])).trans h.row
theorem Big.det{t:Tr}{s a b:Ms}{u v:Int}(h:Big (.one t) s u a)(k:Big (.one t) s v b):u=v/\a=b:=by
 have d:=h.ev (s.fuel+1) (by omega);have c:=k.ev (s.fuel+1) (by omega);rw[d]at c;exact⟨congrArg Prod.fst c,congrArg Prod.snd c⟩
def IsRun (p:PgV)(args:List Int)(fuel:Int)(s:Ms):Prop:=∃t v s',Good p t/\Big (.one t) (Zk p.V args fuel.toNat) v s'/\s=s'.stopped 3 0
theorem IsRun.det{p:PgV}{args:List Int}{fuel:Int}{a b:Ms}(h:IsRun p args fuel a)(k:IsRun p args fuel b):a=b:=by
 obtain⟨t,v,s,g,e,rfl⟩:=h;obtain⟨j,l,i,d,c,rfl⟩:=k;have:=g.hat.uniq d.hat;subst this;rw[(e.det c).2]
def Ajd:Ms:=⟨[],[],0,0,[],none⟩
open Classical in
noncomputable def QG (p:PgV)(args:List Int)(fuel:Int):Ms:=if h:Q7 p args.length fuel=0/\∃s,IsRun p args fuel s then h.2.choose else Ajd
theorem Y3{p:PgV}{args:List Int}{fuel:Int}(h:Q7 p args.length fuel≠0):QG p args fuel=Ajd:=by
 unfold QG;rw[dif_neg (λk=>h k.1)]
theorem Acj{p:PgV}{args:List Int}{fuel:Int}{s:Ms}(h:Q7 p args.length fuel=0)(k:IsRun p args fuel s):QG p args fuel=s:=by
 unfold QG;rw[dif_pos ⟨h,s,k⟩];exact(Exists.choose_spec (p:=λs=>IsRun p args fuel s) ⟨s,k⟩).det k
structure RunK (p:PgV)(args:List Int)(fuel:Int)(t:Tr)(v:Int)(s':Ms):Prop where
 good:Good p t
 big:Big (.one t) (Zk p.V args fuel.toNat) v s'
 eq:QG p args fuel=s'.stopped 3 0
 oks:OkS p.V s'
 init:OkS p.V (Zk p.V args fuel.toNat)
 okO:okO p.V t
theorem Y2{p:PgV}{args:List Int}{fuel:Int}{w:World}(hok:p.ok w)(hin:∀a∈args,InI a)(h:Q7 p args.length fuel=0):∃t v s',RunK p args fuel t v s':=by
 obtain⟨t,c,j,k,l⟩:=KO h;have d:=Aix hok c;have e:=Ahz (F:=fuel.toNat) hok c c.vars j hin;obtain⟨v,s',i⟩:=AbP p.V (fuel.toNat+1) (Zk p.V args fuel.toNat) (by simp[Zk]) e t d;exact⟨t,v,s',c,i,Acj h ⟨t,v,s',c,i,rfl⟩,(i.inv (g:=.one t) d e).1,e,d⟩
theorem RunK.fin{p:PgV}{args:List Int}{fuel:Int}{t:Tr}{v:Int}{s':Ms}(h:RunK p args fuel t v s'):∃fin:Mm,Reach (Z2 0 t ⟨Zk p.V args fuel.toNat,[]⟩) fin/\fin.s.out.isSome=true/\fin.s=s'.stopped 3 0:=by
 obtain⟨m,d,c,g⟩:=sim h.big h.okO h.init rfl 0 [] (λi=>absurd h.good.kind i);cases ho:s'.out with
 |some o=>
  refine⟨m,d,by rw[c,ho];rfl,?_⟩;rw[c];unfold Ms.stopped;rw[ho];rfl
 |none=>
  have e:=g ho;have j:m=⟨s',[]⟩:=by cases m;simp only at c e;subst c;rw[e,told]
  refine⟨⟨s'.stop 3 0,[]⟩,d.trans (.one (by rw[c];exact ho) (by rw[j];exact .done s')),rfl,?_⟩;unfold Ms.stopped;rw[ho];rfl
structure RunA (s:Ms)(err:Int)(w w':World)(e:Ending):Prop where
 ex:∃A cap,e=.returned (.tuple #[.agg #[.int .i64 (s.out.getD (0,0)).1,.int .i64 (s.out.getD (0,0)).2,.int .i64 (s.steps:Int),.slice A s.evs.length cap],.int .i64 err])/\Rd w' A (s.evs.flatMap EvV.cells)/\s.evs.length<=cap/\cap<=maxLen/\(A=none->cap=0)/\Below w.heap.size w w'
theorem Afi{w:World}{base n size:Nat}{e:TypeId}{v:Value}{xs:List Value}(h:w.ownsRow base e size v n xs):∃A cap,v=.slice A n cap/\Rd w A xs/\n<=cap/\cap<=maxLen/\(A=none->cap=0):=by
 rcases h.2 with⟨rfl,rfl⟩|⟨g,cap,i,rfl,_,p,o,q,_,t⟩
 ·have m:=h.1;simp at m;subst m;exact⟨none,0,rfl,Rd.nil _ _,Nat.le_refl _,Nat.zero_le _,λ_=>rfl⟩
 ·refine⟨some ⟨g,0,none⟩,cap,rfl,λj u d=>⟨_,rfl,?_⟩,o,q,λh=>by cases h⟩;have s:Row w g e i:=p;have c:j<xs.length:=(La.1 d).1;rw[<-t]at d c;have k:=c;rw[L1]at k;rw[LQ (by omega)]at d;have:w.cell? ⟨g,j,none⟩=some u:=s.cellv (by rw[<-Ng];exact d);unfold Addr.add;by_cases l:j=0
  ·subst l;exact this
  ·rw[if_neg l];simpa using this
theorem RunR.a{fin:Mm}{w w':World}{e:Ending}(h:RunR fin w w' e):RunA fin.s 0 w w' e:=by
 obtain⟨ev,rfl,c,l⟩:=h.ex;obtain⟨A,d,rfl,g,i,j,k⟩:=Afi c;exact⟨A,d,rfl,g,i,j,k,l⟩
theorem RunA.bad{p:PgV}{args:List Int}{fuel:Int}{w w':World}{e:Ending}(h:Q7 p args.length fuel≠0)(he:e=.returned (.tuple #[.agg #[.int .i64 0,.int .i64 0,.int .i64 0,.slice none 0 0],.int .i64 (Q7 p args.length fuel)])/\Below w.heap.size w w'):RunA (QG p args fuel) (Q7 p args.length fuel) w w' e:=by
 obtain⟨rfl,c⟩:=he;rw[Y3 h];exact⟨none,0,rfl,Rd.nil _ _,Nat.le_refl _,Nat.zero_le _,λ_=>rfl,c⟩
theorem AlD (p:PgV)(aa:Option Addr)(acap:Nat)(args:List Int)(fuel:Int)(w:World)(hbl:p.body.length<=1000)(hn:args.length<=1000)(hok:p.ok w)(hra:Rd w aa (Qi args))(hin:∀a∈args,InI a):
 Calls Tryz.prog 72 #[.agg p.cells,.slice aa args.length acap,.int .i64 fuel] w λe w'=>RunA (QG p args fuel) (Q7 p args.length fuel) w w' e:=by
 by_cases c:Q7 p args.length fuel=0
 ·obtain⟨t,v,k,d⟩:=Y2 hok hin c;obtain⟨fin,g,i,j⟩:=d.fin;refine(AdH p t aa acap args fuel fin w hbl hn hok hra d.good c g i).mono λe w' h=>?_
  rw[d.eq,c, <-j];exact h.a
 ·exact(AdG p aa acap args.length fuel w hbl hn hok c).mono λe w' h=>.bad c h
theorem AaV (s:Ms):(s.stopped 3 0).steps=s.steps:=by unfold Ms.stopped;split<;>rfl
theorem Ad8 (s:Ms):(s.stopped 3 0).evs=s.evs:=by unfold Ms.stopped;split<;>rfl
theorem Acs{s:Ms}{o:Int×Int}(h:s.out=some o):s.stopped 3 0=s:=by unfold Ms.stopped;rw[h];rfl
theorem Acr{s:Ms}(h:s.out=none):s.stopped 3 0=s.stop 3 0:=by unfold Ms.stopped;rw[h];rfl
theorem RunK.steps{p:PgV}{args:List Int}{fuel:Int}{t:Tr}{v:Int}{s':Ms}(h:RunK p args fuel t v s'):s'.fuel+s'.steps=fuel.toNat:=by
 have:=h.big.ext.sum;simpa[Zk]using this
theorem RunK.kind{p:PgV}{args:List Int}{F:Int}{t:Tr}{v:Int}{s:Ms}(h:RunK p args F t v s):∃k x,(QG p args F).out=some (k,x)/\((k=0/\InI x)\/(1<=k/\k<=4/\x=0))/\∀e∈(QG p args F).evs,OkE p.V e:=by
 rw[h.eq];cases he:s.out with
 |none=>
  rw[Acr he];exact⟨3,0,rfl,.inr ⟨by omega,by omega,rfl⟩,h.oks.evs⟩
 |some o=>
  rw[Acs he,he];exact⟨o.1,o.2,rfl,h.oks.out o.1 o.2 he,h.oks.evs⟩
def Jv (k v:Int):List Value:=[.int .i64 k,.int .i64 v]
theorem YZ{W:World}{G:Nat}{r:RunV}(h:Row W G 114 r.cells):∀j v,(Jv r.kind r.value)[j]? =some v->W.cell? ((⟨G,0,none⟩:Addr).add j)=some v:=
 Row.from_ (cur:=r.cells) h 0 (λj v hj=>by
  match j,hj with
  |0,hj|1,hj=>exact hj)
def Rd3 (r:RunV)(W:World):Prop:=Rd W r.addr (r.evs.flatMap EvV.cells)
instance St.rd3{r:RunV}:St (Rd3 r):=⟨λh b=>Rd.go h b⟩
def Ms.rv (s:Ms)(A:Option Addr)(cap:Nat):RunV:=⟨(s.out.getD (0,0)).1,(s.out.getD (0,0)).2,s.steps,A,cap,s.evs⟩
theorem Alb (r:RunV):r.cells.all (·.oneCell')=true:=by simp[RunV.cells,Value.oneCell']
theorem Acl (p:PgV)(args:List Int)(fuel:Int):(QG p args fuel).evs.length<=10000:=by
 unfold QG;split
 ·rename_i h;obtain⟨t,v,k,_,c,g⟩:=h.2.choose_spec;rw[g,Ad8];obtain⟨_,_,_,i,j⟩:=KO h.1;have d:=c.ext.few;have e:=c.ext.sum;simp only[Zk,Lo]at d e;omega
 ·exact Nat.zero_le _
theorem Akm (p:PgV)(args:List Int)(fuel:Int):(QG p args fuel).evs.length<=1000000:=Ld (Acl p args fuel) (by omega)
attribute [local go_sem] Oper.semAt_some
def AkK (w:World)(b:Nat):Nat:=match w.cell? ⟨b,0,none⟩with|some (.int _ n)=>n.toNat|_=>0
theorem Akc (n:Nat):bits .or .u8 (((n % 256:Nat):Int)) 128=((UInt8.ofNat (128+n % 128)).toNat:Int):=by
 have h:∀m:Nat,m<256->bits .or .u8 (m:Int) 128=((128+m % 128:Nat):Int):=by decide+kernel
 rw[h (n % 256) (by omega)];have:(UInt8.ofNat (128+n % 128)).toNat=128+n % 128:=by simp;omega
 rw[this];omega
theorem Alf (n:Nat):((n % 256:Nat):Int)=((UInt8.ofNat n).toNat:Int):=by simp
theorem AbY (bs:Nat)(n:Nat)(hn:n<18446744073709551616)(w:World)(hrow:Row w bs 207 #[.int .u64 n]):
 AcI Tryz.prog 215 #[.pointer (some ⟨bs,0,none⟩)] (λx:UInt8=>#[.int .u8 (x.toNat:Int)]) (· =bs) (λA B=>B.heap[bs]? =A.heap[bs]? /\A.heap.size<=B.heap.size) (λxs=>xs=Vh n) (λ_=>True) 10 w:=by
 intro l J Jx W _ ak hJ aq hY h0;refine callsIn_of_wp Tryz.func215 rfl trivial ?_ rfl;simp only[Tryz.ntmps215,Lk,Lc,Lo,Nat.reduceAdd,Nat.reduceSub,Li,Lj,Lp,L5,Lm,Ll];gi_wp2;have aj:Row W bs 207 #[.int .u64 n]:=(ak.block bs hrow.lt (by simp)).trans hrow
 have z:n<128 ^ 10:=by
  have e:(128:Nat) ^ 10=1180591620717411303424:=by decide
  rw[e];omega
 have Hn:=Lh hn;have ag:=Lh z;clear hrow ak hn z;gi_loopw [3,4] (λ_ _ wr=>∃(f m:Nat) (g:List UInt8),g++EU (f+1) m=Vh n/\m<128 ^ (f+1)/\m<18446744073709551616/\g.length+(f+1)=10/\Row wr bs 207 #[.int .u64 m]/\J g wr) (λ_ _ wr=>AkK wr bs)
 case atStart=>exact⟨9,n,[],rfl,ag.out,Hn.out,rfl,aj,h0⟩
 case round=>
  clear aj h0;obtain⟨f,m,g,aa,hm,y,u,hr,hj⟩:=hrel;have q:=Lh aa;have Hm:=Lh hm;have p:=Lh u;have af:=Lh y;clear aa hm u y;have hc:=hr.cellv (i:=0) (v:=.int .u64 (m:Int)) rfl;have hf:=hr.free 0;have h:g.length<10:=by have:=p.out;omega
  by_cases s:m<128
  ·obtain⟨c,d⟩:∃c:UInt8,c=UInt8.ofNat m:=⟨_,rfl⟩;have hx:((c.toNat:Nat):Int)=(m:Int):=by rw[d, <-Alf];omega
   obtain⟨fn,al,j,ah,hy,hR⟩:=hY _ c _ hj h;rw[hx]at hy;have HR:=Lh hR;have ab:=Lh d;have ao:((m:Nat):Int)<128:=by omega
   clear hR d hx s;gi_wp2;refine⟨rfl,HR.out.mono ?_⟩;rintro e W' (⟨rfl,k,ad,ap⟩|⟨rfl,ac⟩)
   ·gi_wp2;go_end0
    refine⟨⟨_,rfl⟩,.inl ⟨_,?_,k⟩⟩;rw[<-q.out,Ae1 f m (by omega),ab.out]
   ·gi_wp2;go_end0
    exact⟨⟨_,rfl⟩,.inr ⟨_,trivial,ac⟩⟩
  ·obtain⟨c,d⟩:∃c:UInt8,c=UInt8.ofNat (128+m % 128):=⟨_,rfl⟩
   have hx:((c.toNat:Nat):Int)=bits .or .u8 ((m:Int) % 256) 128:=by
    have e:(m:Int) % 256=((m % 256:Nat):Int):=by omega
    rw[d,e,Akc]
   obtain⟨fn,al,j,ah,hy,hR⟩:=hY _ c _ hj h;rw[hx]at hy;have HR:=Lh hR;have ab:=Lh d;have ao:128<=((m:Nat):Int):=by omega
   clear hR d hx s;gi_wp2;have t:=Ain f m (by omega)
   have an:0<f:=by
    rcases Nat.eq_zero_or_pos f with rfl|h0
    ·have:=Hm.out;simp at this;omega
    ·exact h0
   obtain⟨f,rfl⟩:∃f',f=f'+1:=⟨f-1,by omega⟩;have ae:=Lh t;clear t an;refine⟨rfl,HR.out.mono ?_⟩;rintro e W' (⟨rfl,k,ad,ap⟩|⟨rfl,ac⟩)
   ·have o:Row W' bs 207 #[.int .u64 m]:=ad.trans hr;have ar:=o.cellv (i:=0) (v:=.int .u64 (m:Int)) rfl;have au:=o.free 0;have am:=Lh k;clear k ad hj hy hf hc;gi_wp2;have ai:(m:Int) / 128=((m / 128:Nat):Int):=by omega
    go_roundw
    case rel=>
     refine⟨f,m / 128,g++[c],?_,?_,?_,?_,?_,?_⟩
     ·rw[<-q.out,ae.out,ab.out];simp
     ·have:=Hm.out;rw[Nat.pow_succ]at this;omega
     ·have:=af.out;omega
     ·have:=p.out;simp;omega
     ·rw[<-ai];exact o.set 0 _
     ·exact hJ _ _ _ (some bs) am.out (grownBy_setCell' _ _ _) (λr e=>by cases e;exact .inl rfl)
    case measure=>
     have h1:=(o.set 0 (.int .u64 ((m:Int) / 128))).cell 0;have h2:=hr.cell 0;unfold AkK;rw[h1,h2];simp;omega
   ·clear hj hy hc hf hr;gi_wp2;refine bodyPost_ret (results_none rfl _ _ _) rfl ?_;exact⟨⟨_,rfl⟩,.inr ⟨_,trivial,ac⟩⟩
end Go.Proofs.YtkoikjnlpifbjaaGreat
namespace Go.Proofs.YtkoikjnlpifbjaaGreat
open Go.RowKit
theorem VY:(Tryz.prog.info? 5).map (λi=>(i.zero,i.size,i.bytes))=some (some (.int .u8 0),1,1):=by kernel_rfl
end Go.Proofs.YtkoikjnlpifbjaaGreat
namespace Go.Proofs.YtkoikjnlpifbjaaGreat
open Go.RowKit Go.Deep
attribute [local go_sem] Oper.semAt_some
theorem AeQ (n:Nat)(w:World):
 Calls Tryz.prog 195 #[.int .u64 n] w λe w'=>e=.returned (.func (.func 215) #[] #[.pointer (some ⟨w.heap.size,0,none⟩)])/\w.alloc (.cells #[.int .u64 n] 207)=w':=by
 go_enter Tryz.func195,Tryz.ntmps195
 go_wp2
 go_ret
 exact⟨rfl,rfl⟩
theorem EV (n:Nat)(hn:n<18446744073709551616)(w:World):
 Calls Tryz.prog 159 #[.int .u64 n] w λe w'=>e=.returned (.string ⟨(Vh n).toArray⟩)/\Below w.heap.size w w':=by
 have Hn:=Lh hn;clear hn;obtain⟨i0,ag,ai,aj,ak⟩:=info_parts VY;refine(callsIn_wide (n:=0)).1 ?_;refine callsIn_of_wp_marks Tryz.func159 rfl trivial ?_;simp only[Tryz.ntmps159,Lk,Lc,Lo,Nat.reduceAdd,Nat.reduceSub,Li,Lj,Lp,L5,Lm,Ll];gi_wp2_with fail
 have rg:=Row.new w 250 #[.slice none 0 0];have b1:=(Below.refl w.heap.size w).alloc (Nat.le_refl _) (.cells #[.slice none 0 0] 250);have l1:=rg.lt;generalize w.alloc (.cells #[.slice none 0 0] 250)=w1 at rg b1 l1|-;refine⟨trivial,rfl,(callsIn_wide.2 (AeQ n w1)).mono ?_⟩;rintro e w2 ⟨rfl,ae⟩;have rb:=Row.new w1 207 #[.int .u64 n];have y:=rg.alloc (.cells #[.int .u64 n] 207);have b2:=b1.alloc b1.size (.cells #[.int .u64 n] 207);rw[ae]at rb y b2;obtain⟨g,ac⟩:∃g,g=w1.heap.size:=⟨_,rfl⟩;rw[<-ac]at rb l1|-;have lb:=rb.lt;obtain⟨G,hG⟩:∃G,G=w.heap.size:=⟨_,rfl⟩;have gG:w.heap.size<=G:=by omega
 rw[<-hG]at y l1|-;clear ac ae rg b1;have HG:=Lh hG;clear hG;have ab:=Lh (AbY g n Hn.out w2 rb);gi_wp2
 refine Acd (gf:=215) (lb:=#[.pointer (some ⟨g,0,none⟩)]) rfl (enters_of Tryz.func215 (by kernel_rfl) rfl) ab.out (λr h=>by subst h;omega)
  (λh k=>⟨k.1.trans h.1,Ld h.2 k.2⟩) (λW l o o' hl ho hc=>⟨by rw[World.putObj_heap_other (by omega)],by simp⟩) (World.grownBy.refl _ _) (λ_=>rfl)
  (λd W=>∃v,Row W G 250 #[v]/\W.ownsRow w.heap.size 5 1 v d.length (u8s d)/\Below w.heap.size w W/\v.ownBlock≠some g/\g<W.heap.size) (λ_ _ _=>False) ?hI ?hIx ⟨_,y,World.ownsRow_nil _ _ _ _,b2,by simp[Value.ownBlock],lb⟩
  (λx a' W=>a'={ tmps:=#[.int .u64 n,undef,.string ⟨#[]⟩,.pointer (some ⟨G,0,none⟩),.int .u8 (x.toNat:Int),.int .u64 n,.func (.func 215) #[] #[.pointer (some ⟨g,0,none⟩)],.int .u8 (x.toNat:Int),undef,undef,undef,undef,undef,undef],defers:=[] }) ?hAx ?assign ?body ?done ?stop
 case hI=>
  rintro d A B row ⟨v,s,u,q,h4,h5⟩ p hr
  have t:∀r,row=some r->r≠G/\v.ownBlock≠some r:=λr e=>by
   rcases hr r e with h|⟨h,o,ho,hc⟩
   ·have:r=g:=h;subst this;exact⟨by omega,h4⟩
   ·exact⟨by omega,Jd u ho hc⟩
  refine⟨v,s.grown p (λe=>(t G e).1 rfl),u.kept p ?_,q.grown p q.size (λk e=>?_),h4,Lg h5 p.size⟩
  ·cases row with
   |none=>cases v.ownBlock<;>simp
   |some r=>exact .inr (t r rfl).2
  ·rcases hr k e with h|⟨h,_⟩
   ·have:k=g:=h;omega
   ·have:=b2.size;omega
 case hIx=>exact λ_ _ _ _ _ h _ _=>h
 case hAx=>exact λx a' _ _ _ _ h _ _=>h
 case assign=>
  rintro l d x W K hI hK;have HK:=Lh hK;clear hK;gi_wp2;exact HK.out _ _ (KeepsFrom.refl _ _) ⟨rfl,Nat.le_refl _⟩ hI rfl
 case body=>
  rintro l d x a' W hl _ ⟨v,s,u,q,h4,h5⟩ rfl ah;have al:d.length<10:=ah;have hc:=s.cellv (i:=0) (v:=v) rfl;have hf:=s.free 0;have ha:=u.alloc (.cells #[.int .u8 (x.toNat:Int)] 5);have HA:=Lh ha;clear ha;gi_wp2_with (gi_at_builtin;refine wpListIn_append_own_at _ rfl (.tmp 8) (.tmp 10) 250 rfl w.heap.size 5 i0 (.int .u8 0) 1 1 Tryz.underlying250 ag ai aj ak rfl (by decide) v d.length (u8s d) rfl HA.out ⟨W.heap.size,0,none⟩ 1 1 (u8s [x]) rfl rfl (Z9 _ _ _) (VQ _) (by unfold maxLen;omega) (by omega) (by have:=q.size;simp;omega) ?_);intro v' W3 j p _ ad;have r3:=(s.alloc (.cells #[.int .u8 (x.toNat:Int)] 5)).grown p (Qz HA.out (s.alloc _) (by decide));have b3:=QL (q.alloc q.size _) HA.out p (by have:=q.size;simp;omega) (Nat.le_refl _);have k3:KeepsFrom w2.heap.size W W3:=(KeepsFrom.alloc _ W (.cells #[.int .u8 (x.toNat:Int)] 5)).trans (KeepsFrom.of_own HA.out p);have e3:W3.heap[g]? =W.heap[g]? :=(p.block g (by simp;omega) (λe=>h4 e.symm)).trans (Below.heap_alloc _ _ _ h5);have l3:W.heap.size<W3.heap.size:=by have:=p.size;simp at this;omega
  have n3:v'.ownBlock≠some g:=by
   rcases ad with h|h
   ·rw[h];exact h4
   ·rw[h];intro e;injection e;omega
  obtain⟨A',m',c',rfl⟩:∃A m c,v'=.slice A m c:=ZC j;have am:=r3.cellv (i:=0) (v:=v) rfl;have an:=r3.free 0;have nG:=Qz j r3 (by decide);have aa:=Lh j;clear j p ad hc hf;gi_wp2;have z:=Zl W3 G 0 (.slice A' m' c');refine⟨k3.trans (KeepsFrom.of_only r3 z),⟨(z.block g (by omega)).trans e3,by have:=z.size;omega⟩,_,r3.set 0 _,?_,Qp b3 z gG,n3,by have:=z.size;omega⟩;have:=Qx aa.out z nG;rw[<-Ur]at this;simpa using this
 case stop=>exact λD c d W _ _ h _=>h.elim
 case done=>
  rintro D ys W hD rfl ⟨v,s,u,q,_,_⟩ hK;have af:=Kk (P:=Tryz.prog) 250 9 5 Tryz.underlying250 Tryz.underlying5 Tryz.underlying9 _ u;have hc:=s.cellv (i:=0) (v:=v) rfl;have HK:=Lh hK;clear hK u;gi_wp2;refine⟨by simp,.inl ⟨_,_,rfl,run_takeDeferred HK.out,?_⟩⟩;exact⟨_,results_tmp rfl _ _ _,rfl,q.grown (grownBy_putObj' _ _ _) q.size (λk e=>by cases e;have:=b2.size;omega)⟩
end Go.Proofs.YtkoikjnlpifbjaaGreat
namespace Go.Proofs.YtkoikjnlpifbjaaGreat
open Go.RowKit Go.Deep
theorem Aky (u:Int):bits .xor .u64 IntKind.u64.max (IntKind.u64.wrap (u*2))=18446744073709551615-IntKind.u64.wrap (u*2):=by
 obtain⟨m,g,e⟩:∃m:Nat,IntKind.u64.wrap (u*2)=(m:Int)/\m<18446744073709551616:=by
  rw[IntKind.wrap_u64];exact⟨((u*2) % 18446744073709551616).toNat,by omega,by omega⟩
 rw[g];show IntKind.u64.wrap ((BitVec.ofInt 64 IntKind.u64.max ^^^ BitVec.ofInt 64 (m:Int)).toNat:Int)=_;have c:BitVec.ofInt 64 IntKind.u64.max=BitVec.allOnes 64:=by decide+kernel
 have d:(BitVec.ofInt 64 (m:Int)).toNat=m:=by rw[BitVec.ofInt_natCast,BitVec.toNat_ofNat];exact NC (by omega)
 rw[c,BitVec.allOnes_xor,BitVec.toNat_not,d,IntKind.wrap_u64];omega
theorem Ajk (u:Int)(w:World):Calls Tryz.prog 216 #[.int .u64 u] w λe w'=>e=.returned (.int .u64 (IntKind.u64.wrap (u*2)))/\w=w':=by
 go_enter Tryz.func216,Tryz.ntmps216
 go_wp2
 go_ret
 exact⟨rfl,rfl⟩
theorem Ajl (u:Int)(w:World):Calls Tryz.prog 217 #[.int .u64 u] w λe w'=>e=.returned (.int .u64 (bits .xor .u64 IntKind.u64.max (IntKind.u64.wrap (u*2))))/\w=w':=by
 have c:¬IntKind.u64.signed=true:=by decide
 go_enter Tryz.func217,Tryz.ntmps217
 go_wp2
 go_ret
 exact⟨rfl,rfl⟩
theorem AkD (n:Int)(hn:InI n)(h:0<=n):IntKind.u64.wrap (IntKind.u64.wrap n*2)=(AcG n:Int):=by
 simp only[IntKind.wrap_u64];unfold AcG;rw[if_pos h];have:=hn.2;omega
theorem AkC (n:Int)(hn:InI n)(h:¬0<=n):bits .xor .u64 IntKind.u64.max (IntKind.u64.wrap (IntKind.u64.wrap n*2))=(AcG n:Int):=by
 rw[Aky];simp only[IntKind.wrap_u64];unfold AcG;rw[if_neg h];have:=hn.1;omega
theorem Agf{a b:Int}(h:a=b):Ending.returned (.int .u64 a)=.returned (.int .u64 b):=by rw[h]
theorem AkB (n:Int)(hn:InI n)(w:World):
 Calls Tryz.prog 196 #[.int .i64 n] w λe w'=>e=.returned (.int .u64 (AcG n))/\Below w.heap.size w w':=by
 have c:=Lh hn;clear hn;go_enter Tryz.func196,Tryz.ntmps196
 go_wp2_with (refine QH _ rfl ?_)
 refine Stop.to ?_;refine Qj rfl 302 rfl _ _ rfl rfl ?_;intro g y j o k;go_wp2_with (refine Qs _ _ _ rfl ?_)
 refine Stop.to ?_;refine Qk rfl 302 _ _ rfl g #[.func (.func 216) #[] #[],.func (.func 217) #[] #[]] rfl rfl 302 _ o (by kernel_rfl) rfl (by kernel_rfl) ?_;intro q p m;have l:=Qp ((Below.refl w.heap.size w).trans (k.mono j)) m j;have u:=p.cellv (i:=0) (v:=.func (.func 216) #[] #[]) rfl;have x:=p.cellv (i:=1) (v:=.func (.func 217) #[] #[]) rfl;clear m o k j;by_cases d:0<=n
 ·have s:IntKind.u64.wrap n / 9223372036854775808=0:=by rw[IntKind.wrap_u64];have:=c.out.1;have:=c.out.2;omega
  have h:=Lh d;clear d;go_wp2_with fail
  refine(Ajk _ q).mono ?_;rintro e t ⟨rfl,rfl⟩;go_wp2_with fail
  go_ret
  exact⟨Agf (AkD n c.out h.out),l⟩
 ·have s:IntKind.u64.wrap n / 9223372036854775808=1:=by rw[IntKind.wrap_u64];have:=c.out.1;have:=c.out.2;omega
  have h:=Lh d;clear d;go_wp2_with fail
  refine(Ajl _ q).mono ?_;rintro e t ⟨rfl,rfl⟩;go_wp2_with fail
  go_ret
  exact⟨Agf (AkC n c.out (by have:=h.out;omega)),l⟩
theorem AfI (n:Int)(hn:InI n)(w:World):
 Calls Tryz.prog 160 #[.int .i64 n] w λe w'=>e=.returned (.string ⟨(zz n).toArray⟩)/\Below w.heap.size w w':=by
 have c:=Lh hn;clear hn;go_enter Tryz.func160,Tryz.ntmps160
 go_wp2_with fail
 refine(AkB n c.out w).mono ?_;rintro e h ⟨rfl,d⟩;go_wp2_with fail
 refine(EV (AcG n) (AkA c.out) h).mono ?_;rintro e i ⟨rfl,g⟩;go_wp2_with fail
 go_ret
 exact⟨rfl,d.trans (g.mono d.size)⟩
def Wr (W:World)(B g:Nat)(l:List UInt8):Prop:=B<=g/\∃v,Row W g 259 #[v]/\W.ownsRow B 5 1 v l.length (u8s l)
structure WrEff (B g:Nat)(w w':World):Prop where
 os:w'.os=w.os
 tape:w'.tape=w.tape
 output:w'.output=w.output
 size:w.heap.size<=w'.heap.size
 block:∀k,k<w.heap.size->k≠g->(∀cs,B<=k->¬Row w k 5 cs)->w'.heap[k]? =w.heap[k]?
theorem WrEff.of_below{B g:Nat}{w w':World}(b:Below w.heap.size w w'):WrEff B g w w':=⟨b.os,b.tape,b.output,b.size,λk hk _ _=>b.block k hk⟩
theorem WrEff.refl (B g:Nat)(w:World):WrEff B g w w:=⟨rfl,rfl,rfl,Nat.le_refl _,λ_ _ _ _=>rfl⟩
theorem WrEff.trans{B g:Nat}{a b c:World}(h:WrEff B g a b)(k:WrEff B g b c):WrEff B g a c:=
 ⟨k.os.trans h.os,k.tape.trans h.tape,k.output.trans h.output,Ld h.size k.size,λi hi hg hr=>by
  have e:=h.block i hi hg hr
  refine(k.block i (Lg hi h.size) hg (λcs hB hrow=>hr cs hB ?_)).trans e
  rw[Row]at hrow|-;rw[<-e];exact hrow⟩
theorem WrEff.row{B g k:Nat}{w w':World}{t:TypeId}{cs:Array Value}(h:WrEff B g w w')(hr:Row w k t cs)(hg:k≠g)(ht:t≠5):Row w' k t cs:=
 (h.block k hr.lt hg (λcs' _ h'=>ht (by rw[Row]at hr h';rw[hr]at h';injection h' with h';injection h' with _ h''))).trans hr
theorem WrEff.below{B g:Nat}{w w':World}(h:WrEff B g w w')(hB:B<=g)(hs:B<=w.heap.size):Below B w w':=
 ⟨h.os,h.tape,h.output,h.size,λk hk=>h.block k (by omega) (by omega) (λ_ hb _=>by omega)⟩
theorem WrEff.keeps{B g C:Nat}{w w':World}{t:TypeId}{cs:Array Value}(h:WrEff B g w w')(hg:Row w g t cs):KeepsFrom C w w':=
 ⟨h.size,λk o _ hk ho=>(h.block k (Lr.1 hk).1 (λe=>by subst e;rw[hg]at hk;cases hk;cases ho) (λcs' _ h'=>by rw[Row]at h';rw[h']at hk;cases hk;cases ho)).trans hk⟩
theorem Wr.go{W W':World}{B g:Nat}{l:List UInt8}(h:Wr W B g l)(b:Below W.heap.size W W'):Wr W' B g l:=by
 obtain⟨d,v,c,e⟩:=h;exact⟨d,v,c.below b c.lt,QB e b⟩
instance St.wr{B g:Nat}{l:List UInt8}:St (λW=>Wr W B g l):=⟨λh b=>h.go b⟩
theorem Wr.lt{W:World}{B g:Nat}{l:List UInt8}(h:Wr W B g l):g<W.heap.size:=by obtain⟨_,v,h1,_⟩:=h;exact h1.lt
theorem WrEff.of_own{B g n:Nat}{w w':World}{v:Value}{xs:List Value}(h:w.ownsRow B 5 1 v n xs)(hg:w.grownBy w' v.ownBlock):WrEff B g w w':=
 ⟨hg.os,hg.tape,hg.output,hg.size,λk hk _ hr=>hg.block k hk (λe=>by
  rcases h.2 with⟨rfl,_⟩|⟨g',cap,cur,rfl,hB,hh,_⟩
  ·simp[Value.ownBlock]at e
  ·have:g'=k:=by simpa[Value.ownBlock]using e.symm
   subst this
   exact hr _ hB hh)⟩
theorem WrEff.of_only{B g:Nat}{w w':World}(o:Only g w w'):WrEff B g w w':=⟨o.os,o.tape,o.output,LD o.size.symm,λk _ hk _=>o.block k hk⟩
theorem Aek (w:World):
 Calls Tryz.prog 121 #[] w λe w'=>e=.returned (.pointer (some ⟨w.heap.size,0,none⟩))/\Wr w' w.heap.size w.heap.size []/\Below w.heap.size w w':=by
 go_enter Tryz.func121,Tryz.ntmps121
 go_wp2
 go_ret
 exact⟨rfl,⟨Nat.le_refl _,.slice none 0 0,Row.new _ _ _,World.ownsRow_nil _ _ _ _⟩,(Below.refl _ _).alloc (Nat.le_refl _) _⟩
theorem Ad9 (s:ByteArray):Lib.strCells s=u8s s.data.toList:=by
 rfl
theorem Agd (B g:Nat)(l:List UInt8)(s:ByteArray)(hl:l.length<=1000000)(hs:s.size<=1000000)(w:World)(h:Wr w B g l):
 Calls Tryz.prog 158 #[.pointer (some ⟨g,0,none⟩),.string s] w λe w'=>e=.returned (.pointer (some ⟨g,0,none⟩))/\Wr w' B g (l++s.data.toList)/\WrEff B g w w':=by
 obtain⟨i0,x,y,z,aa⟩:=info_parts VY;obtain⟨o,v,p,k⟩:=h;have hc:=p.cellv (i:=0) (v:=v) rfl;have hf:=p.free 0;have t:B<=w.heap.size:=Nat.le_of_lt (N0 o p.lt);have j:=Lh k;clear k;go_enter Tryz.func158,Tryz.ntmps158
 go_wp2_with (at_builtin;refine Lib.wpList_append_own_string w rfl (.tmp 9) (.tmp 10) 250 9 rfl B 5 i0 Tryz.underlying250 Tryz.underlying9 x y z aa v l.length (u8s l) rfl j.out s rfl (by unfold maxLen;omega) (by omega) t ?_)
 intro v' w1 d u _;have q:=p.grown u (Qz j.out p (by decide));have e1:=WrEff.of_own (g:=g) j.out u;obtain⟨A',m',c',rfl⟩:∃A m c,v'=.slice A m c:=ZC d;have ab:=q.cellv (i:=0) (v:=v) rfl;have ac:=q.free 0;have nG:=Qz d q (by decide);have n:=Lh d;clear d u hc hf;go_wp2
 go_ret
 have o2:=Zl w1 g 0 (.slice A' m' c');refine⟨rfl,⟨o,_,q.set 0 _,?_⟩,e1.trans (WrEff.of_only o2)⟩;have:=Qx n.out o2 nG;rw[Ad9, <-Ur]at this;simpa using this
theorem Aj8 (B g:Nat)(l:List UInt8)(n:Nat)(hl:l.length<=1000000)(hn:n<18446744073709551616)(w:World)(h:Wr w B g l):
 Calls Tryz.prog 122 #[.pointer (some ⟨g,0,none⟩),.int .u64 n] w λe w'=>e=.returned (.pointer (some ⟨g,0,none⟩))/\Wr w' B g (l++Vh n)/\WrEff B g w w':=by
 have d:=Lh hn;clear hn;go_enter Tryz.func122,Tryz.ntmps122
 go_wp2_with fail
 refine(EV n d.out w).mono ?_;rintro e k ⟨rfl,c⟩;go_wp2_with fail
 refine(Agd B g l _ hl (by rw[Eg];have:=UG n;omega) k (h.go c)).mono ?_;rintro e m ⟨rfl,j,i⟩;go_wp2_with fail
 go_ret
 exact⟨rfl,j,(WrEff.of_below c).trans i⟩
theorem AjX (B g:Nat)(l:List UInt8)(n:Int)(hl:l.length<=1000000)(hn:InI n)(w:World)(h:Wr w B g l):
 Calls Tryz.prog 123 #[.pointer (some ⟨g,0,none⟩),.int .i64 n] w λe w'=>e=.returned (.pointer (some ⟨g,0,none⟩))/\Wr w' B g (l++zz n)/\WrEff B g w w':=by
 have d:=Lh hn;clear hn;go_enter Tryz.func123,Tryz.ntmps123
 go_wp2_with fail
 refine(AfI n d.out w).mono ?_;rintro e k ⟨rfl,c⟩;go_wp2_with fail
 refine(Agd B g l _ hl (by rw[Eg];have:=Uu n;omega) k (h.go c)).mono ?_;rintro e m ⟨rfl,j,i⟩;go_wp2_with fail
 go_ret
 exact⟨rfl,j,(WrEff.of_below c).trans i⟩
theorem Aeo (B g:Nat)(l:List UInt8)(w:World)(h:Wr w B g l):
 Calls Tryz.prog 125 #[.pointer (some ⟨g,0,none⟩)] w λe w'=>e=.returned (.string ⟨l.toArray⟩)/\w=w':=by
 obtain⟨j,v,k,c⟩:=h;have m:=k.cellv (i:=0) (v:=v) rfl;have d:=Kk (P:=Tryz.prog) 250 9 5 Tryz.underlying250 Tryz.underlying5 Tryz.underlying9 _ c;clear c;go_enter Tryz.func125,Tryz.ntmps125
 go_wp2_with fail
 go_ret
 exact⟨rfl,rfl⟩
end Go.Proofs.YtkoikjnlpifbjaaGreat
