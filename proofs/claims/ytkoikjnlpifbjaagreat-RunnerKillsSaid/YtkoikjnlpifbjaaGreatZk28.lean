/- Lemmas for RunnerKillsP. -/
import Derived.Test.YtkoikjnlpifbjaaGreatZk1
import Derived.Test.YtkoikjnlpifbjaaGreatZk27
import Derived.Test.YtkoikjnlpifbjaaGreatZk4
import Derived.Test.YtkoikjnlpifbjaaGreatZk19
import Derived.Maps.AppendAt
set_option linter.unusedVariables false
set_option linter.unusedSimpArgs false
set_option maxRecDepth 100000
set_option maxHeartbeats 16000000
namespace Go.Proofs.YtkoikjnlpifbjaaGreat
open Go.RowKit Go.Deep
theorem KF{P:Program}{o:Oper}{a:Act}{w:World}{K:Act->World->Prop}{Q:Exit->Act->World->Prop}(s x:Operand)(t:TypeId)
 (ho:o.op=.call { callee:=.builtin .append,args:=#[s,x],argTypes:=#[t,t] })
 (base:Nat) (e:TypeId) (i:TypeInfo) (z:Value) (size bytes:Nat) (ht:P.underlying t=some (.slice e)) (hi:P.info? e=some i) (hz:i.zero=some z)
 (hsize:i.size=size) (hby:i.bytes=bytes) (hzs:z.cells.size=size) (hsz:0<size)
 (v:Value) (n:Nat) (xs:List Value) (hs:a.eval s=v) (hown:w.ownsRow base e size v n xs)
 (ad:Addr) (m c:Nat) (news:List Value) (hx:a.eval x=.slice (some ad) m c) (hl:news.length=m*size) (hnews:∀j u,news[j]? =some u->w.cell? (ad.add j)=some u) (h1:∀u∈news,u.oneCell'=true)
 (h63:n+m<=maxLen) (hbytes:(n+m)*bytes<=140737488355328) (hbase:base<=w.heap.size)
 (h:∀v' w',w'.ownsRow base e size v' (n+m) (xs++news)->w.grownBy w' v.ownBlock->(v'.ownBlock=v.ownBlock\/v'.ownBlock=some w.heap.size)->K (a.put o.dst v') w'):
 o.wp P a w K Q:=by
 obtain⟨v',w',l,d,g,p,k⟩:=run_append_own_at (P:=P) w base t o.type e i z size bytes ht hi hz hsize hby hzs hsz v n xs hown ad m c news hl hnews h1 h63 hbytes hbase;unfold Oper.wp execOp;simp only[ho,resolve,invoke,builtin,Sem.run_bind,Sem.run_pure,Result.andThen_ok,Nr,LP,Nv,hs,hx,l];exact h v' w' d g k
theorem AfE{P:Program}{o:Oper}{a:Act}{w:World}{K:Act->World->Prop}{Q:Exit->Act->World->Prop}(ty:TypeId)(x:Operand)(ho:o.op=.box ty x)(cs:Array Value)(hx:(a.eval x).cells=cs)
 (h:∀g w',w.heap.size<=g->Row w' g ty cs->Below g w w'->K (a.put o.dst (.pointer (some ⟨g,0,none⟩))) w'):o.wp P a w K Q:=by
 have e:(execOp a.eval o).run P w=.ok (.value (.pointer (some ⟨w.heap.size,0,none⟩))) (w.alloc (.cells cs ty)):=by
  rw[<-hx];simp[execOp,ho,Instr.box,newVar,newRow]
 unfold Oper.wp;rw[e];exact h _ _ (Nat.le_refl _) (Row.new _ _ _) ((Below.refl _ _).alloc (Nat.le_refl _) _)
structure ChM (M B:Nat)(W W':World):Prop where
 os:W'.os=W.os
 tape:W'.tape=W.tape
 output:W'.output=W.output
 size:W.heap.size<=W'.heap.size
 block:∀k,k<B->k≠M->W'.heap[k]? =W.heap[k]?
section
variable {M B:Nat} {A W W':World}
theorem ChM.refl (M B:Nat)(W:World):ChM M B W W:=⟨rfl,rfl,rfl,Nat.le_refl _,λ_ _ _=>rfl⟩
theorem ChM.trans (h:ChM M B A W)(k:ChM M B W W'):ChM M B A W':=⟨k.os.trans h.os,k.tape.trans h.tape,k.output.trans h.output,Ld h.size k.size,λi h1 h2=>(k.block i h1 h2).trans (h.block i h1 h2)⟩
theorem ChM.below (b:Below B W W'):ChM M B W W':=⟨b.os,b.tape,b.output,b.size,λk h1 _=>b.block k h1⟩
theorem ChM.only (o:Only M W W'):ChM M B W W':=⟨o.os,o.tape,o.output,LD o.size.symm,λk _ h=>o.block k h⟩
theorem ChM.grown{g:Option Nat}(h:W.grownBy W' g)(hs:B<=W.heap.size)(hg:∀k,g=some k->B<=k):ChM M B W W':=
 ⟨h.os,h.tape,h.output,h.size,λk h1 _=>h.block k (by omega) (λe=>by have:=hg k e.symm;omega)⟩
theorem Row.chm{g:Nat}{t:TypeId}{cs:Array Value}(h:Row W g t cs)(c:ChM M B W W')(hg:g<B)(hne:g≠M):Row W' g t cs:=(c.block g hg hne).trans h
theorem Agb{b size n:Nat}{e:TypeId}{v:Value}{xs:List Value}(h:W.ownsRow b e size v n xs)(c:ChM M B W W')(hv:∀g,v.ownBlock=some g->g<B/\g≠M):W'.ownsRow b e size v n xs:=by
 refine⟨h.1,?_⟩;rcases h.2 with h|⟨g,d,i,j,k,l,m⟩
 ·exact .inl h
 ·have:=hv g (by rw[j];rfl);exact .inr ⟨g,d,i,j,k,(c.block g this.1 this.2).trans l,m⟩
end
def Zr (p:PgV)(kv vv av:Value)(F:Int)(PB:Nat):Array Value:=
 #[.int .i64 p.params,.slice p.va p.V.length p.vcap,.slice p.ba p.body.length p.bcap,kv,vv,av,.int .i64 F,.slice none 0 0,.int .i64 0,.int .i64 0,.int .i64 0,.slice none 0 0,.bool false,.map (some PB)]
theorem ChM.to_below{M B b:Nat}{A W:World}(h:ChM M B A W)(hB:b<=B)(hM:b<=M):Below b A W:=⟨h.os,h.tape,h.output,h.size,λk hk=>h.block k (by omega) (by omega)⟩
theorem AjV:(Tryz.prog.info? 22).map (λi=>(i.zero,i.size,i.bytes))=some (some (.slice none 0 0),1,24):=by kernel_rfl
theorem Afj{w:World}{b size n:Nat}{e:TypeId}{v:Value}{xs:List Value}(h:w.ownsRow b e size v n xs):∃A m c,v=.slice A m c:=by
 rcases h.2 with⟨rfl,_⟩|⟨g,d,i,rfl,_⟩
 ·exact⟨_,_,_,rfl⟩
 ·exact⟨_,_,_,rfl⟩
def asL (gs:List Nat)(V:List Int):List Value:=(gs.zip V).map λx=>Value.slice (some ⟨x.1,0,none⟩) (QC x.2).toNat (QC x.2).toNat
structure K2 (p:PgV)(M Bk PB:Nat)(F:Int)(kv:Value)(args:List Int)(W1:World)(k:Nat)(W:World):Prop where
 ex:∃vv av gs,Row W M 184 (Zr p kv vv av F PB)/\gs.length=k/\W.ownsRow Bk 3 1 vv k (Qi ((Kn p.V args).take k))/\W.ownsRow Bk 22 1 av k (asL gs p.V)/\(∀(i g:Nat) (t:Int),gs[i]? =some g->p.V[i]? =some t->Row W g 3 (Qi (List.replicate (QC t).toNat 0)).toArray)/\(∀g∈gs,Bk<=g)/\gs.Nodup/\(∀g∈gs,vv.ownBlock≠some g)/\ChM M Bk W1 W
theorem AfK (gs:List Nat)(V:List Int)(g:Nat)(t:Int)(h:V[gs.length]? =some t):asL (gs++[g]) V=asL gs V++[.slice (some ⟨g,0,none⟩) (QC t).toNat (QC t).toNat]:=by
 induction gs generalizing V with
 |nil=>
  cases V with
  |nil=>simp at h
  |cons b V=>simp at h;subst h;simp[asL]
 |cons a gs ih=>
  cases V with
  |nil=>simp at h
  |cons b V=>
   have:=ih V (by simpa using h);simp only[asL,Ll,List.zip_cons_cons,LP]at this|-;rw[this]
theorem Aaz{V args:List Int}{k:Nat}(h:k<V.length):(Kn V args).take (k+1)=(Kn V args).take k++[args.getD k 0]:=by
 rw[L9,Lb (by simpa[Kn]using h)];simp[Kn]
theorem Xp{P:Program}{ρ:Operand->Value}{o:Oper}{t:TypeId}{x y:Operand}(ho:o.op=.makeSlice t x y){a b v:Value}(hx:ρ x=a)(hy:ρ y=b){w w':World}(h:(Instr.makeSlice t a b).run P w=.ok v w'):(execOp ρ o).run P w=.ok (.value v) w':=by
 simp[execOp,ho,hx,hy,h]
theorem Xk{w:World}{b size n g:Nat}{e:TypeId}{v:Value}{xs:List Value}(h:w.ownsRow b e size v n xs)(hv:v.ownBlock=some g):g<w.heap.size:=by
 rcases h.2 with⟨rfl,_⟩|⟨j,c,d,rfl,_,i,_⟩
 ·simp[Value.ownBlock]at hv
 ·simp[Value.ownBlock]at hv;subst hv;exact(Lr.1 i).1
structure K3 (p:PgV)(M Bk PB:Nat)(F:Int)(kv vv av:Value)(args:List Int)(gs:List Nat)(W1:World)(k:Nat)(W:World):Prop where
 row:Row W M 184 (Zr p kv vv av F PB)
 vv:W.ownsRow Bk 3 1 vv (k+1) (Qi ((Kn p.V args).take (k+1)))
 av:W.ownsRow Bk 22 1 av k (asL gs p.V)
 rows:∀(i g:Nat) (t:Int),gs[i]? =some g->p.V[i]? =some t->Row W g 3 (Qi (List.replicate (QC t).toNat 0)).toArray
 ch:ChM M Bk W1 W
 size:Bk<=W.heap.size
theorem K3.go{p:PgV}{M Bk PB:Nat}{F:Int}{kv vv av:Value}{args:List Int}{gs:List Nat}{W1:World}{k:Nat}{A A':World}(h:K3 p M Bk PB F kv vv av args gs W1 k A)(b:Below A.heap.size A A'):K3 p M Bk PB F kv vv av args gs W1 k A':=
 ⟨h.row.below b h.row.lt,QB h.vv b,QB h.av b,λi g t h1 h2=>(h.rows i g t h1 h2).below b (h.rows i g t h1 h2).lt,h.ch.trans (.below (b.mono h.size)),Ld h.size b.size⟩
theorem Adn:(Tryz.prog.info? 22).map (λi=>(i.zero,i.size,i.bytes))=some (some (.slice none 0 0),1,24):=by kernel_rfl
theorem Uv{ops:Array Oper}{rest:List Oper}{o:Oper}{a:Act}{w:World}{Q:Exit->Act->World->Prop}(h:Stop (wpList Tryz.prog ops Q (o::rest) a w) id):wpList Tryz.prog ops Q (o::rest) a w:=h.out
theorem Kx{w:World}{b n:Nat}{e:TypeId}{v:Value}{xs:List Value}(h:w.ownsRow b e 1 v n xs):∃A c,v=.slice A n c/\Rd w A xs:=by
 rcases h.2 with⟨rfl,rfl⟩|⟨g,l,d,rfl,_,m,_,_,_,q⟩
 ·have:=h.1;simp at this;subst this;exact⟨_,_,rfl,Rd.nil _ _⟩
 ·refine⟨_,_,rfl,λj u i=>⟨_,rfl,?_⟩⟩;have p:Row w g e d:=m;have o:j<xs.length:=(La.1 i).1;have s:=h.1;rw[<-q,LQ (by omega)]at i;have:w.cell? ⟨g,j,none⟩=some u:=p.cellv (by rw[<-Ng];exact i);unfold Addr.add;by_cases k:j=0
  ·subst k;exact this
  ·rw[if_neg k];simpa using this
theorem Ec{L:Lay}{W W':World}{b size n:Nat}{e:TypeId}{v:Value}{xs:List Value}(h:W.ownsRow b e size v n xs)(c:Chg L W W')(hv:∀g,v.ownBlock=some g->g<L.b1/\g≠L.M/\L.vv.ownBlock≠some g/\g∉L.ab):W'.ownsRow b e size v n xs:=by
 refine⟨h.1,?_⟩;rcases h.2 with h|⟨g,d,i,j,k,l,m⟩
 ·exact .inl h
 ·have:=hv g (by rw[j];rfl);exact .inr ⟨g,d,i,j,k,(c.block g this.1 this.2.1 this.2.2.1 this.2.2.2).trans l,m⟩
theorem Ajs{gs:List Nat}{V:List Int}{i g:Nat}{t:Int}(h1:gs[i]? =some g)(h2:V[i]? =some t):(asL gs V)[i]? =some (.slice (some ⟨g,0,none⟩) (QC t).toNat (QC t).toNat):=by
 unfold asL;rw[L4,(List.getElem?_zip_eq_some (z:=(g,t))).2 ⟨h1,h2⟩];rfl
theorem Aip{p:PgV}{args:List Int}{fuel:Int}{w w3 W1 W:World}{M B0 Bk PB:Nat}{kv:Value}{ks:List Value}(hbl:p.body.length<=1000)(hok:p.ok w)(hf:0<=fuel/\fuel<=10000)
 (hMw:w.heap.size<=M) (hPM:PB<M) (hMB:M<B0) (hBk:Bk=W1.heap.size) (hB0k:B0<=Bk) (b3:Below w.heap.size w w3) (hpm:MapB w3 PB Xm) (hch:ChM M B0 w3 W1)
 (hkl:ks.length=p.body.length) (hown:W1.ownsRow B0 22 1 kv ks.length ks) (hks:∀(i:Nat) (v:Value),ks[i]? =some v->W1.ownsRow B0 3 1 v (kidsZ p.body (i:Int)).length (Qi (kidsZ p.body (i:Int))))
 (hK:K2 p M Bk PB fuel kv args W1 p.V.length W):LoadR p args fuel.toNat w W (.returned (.pointer (some ⟨M,0,none⟩))):=by
 obtain⟨vv,av,gs,r,u,s,k,n,ah,ax,ay,l⟩:=hK.ex;have a2:Bk<=W.heap.size:=by have:=l.size;omega
 have al:M<W.heap.size:=r.lt
 have af:∀g∈gs,∃cs,Row W g 3 cs:=by
  intro g aw;obtain⟨i,m,hi⟩:=Na aw;exact⟨_,n i g _ (by rw[Lb m,hi]) (Lb (by omega))⟩
 have an:∀g∈gs,g<W.heap.size:=λg d=>by obtain⟨cs,hr⟩:=af g d;exact hr.lt
 have own1:W.ownsRow B0 22 1 kv ks.length ks:=Agb hown l (λg e=>⟨by have:=Xk hown e;omega,by have:=QQ hown e;omega⟩);have aj:∀(i:Nat) (v:Value),ks[i]? =some v->W.ownsRow B0 3 1 v (kidsZ p.body (i:Int)).length (Qi (kidsZ p.body (i:Int))):=λi v hi=>Agb (hks i v hi) l (λg e=>⟨by have:=Xk (hks i v hi) e;omega,by have:=QQ (hks i v hi) e;omega⟩);have bW:Below w.heap.size w W:=b3.trans ((hch.to_below (by omega) hMw).trans (l.to_below (by omega) hMw))
 have au:MapB W PB Xm:=by
  obtain⟨arr,j,he,hm⟩:=hpm;exact⟨arr,j,(l.block PB (by omega) (by omega)).trans ((hch.block PB (by omega) (by omega)).trans he),hm⟩
 obtain⟨ka,ar,ao,_⟩:=Kx own1;obtain⟨aa,ak,z,_⟩:=Kx k;let L:Lay:=⟨p,M,ka,ar,vv,aa,ak,gs,PB,fuel.toNat,w.heap.size,W.heap.size,λX=>Below w.heap.size w X/\MapB X PB Xm/\X.ownsRow B0 22 1 kv ks.length ks/\(∀(i:Nat) (v:Value),ks[i]? =some v->X.ownsRow B0 3 1 v (kidsZ p.body (i:Int)).length (Qi (kidsZ p.body (i:Int))))/\X.ownsRow Bk 22 1 av p.V.length (asL gs p.V)⟩;have o:∀g,vv.ownBlock=some g->Bk<=g:=λg e=>QQ s e
 have ae:LNew w.heap.size L:=⟨hMw,by show _<=W.heap.size;omega,λg e=>by have:=o g e;omega,λg d=>by have:=ah g d;omega⟩;have ai:∀g,g<Bk->g≠M->g<L.b1/\g≠L.M/\L.vv.ownBlock≠some g/\g∉L.ab:=λg h1 h2=>⟨by show g<W.heap.size;omega,h2,λe=>by have:=o g e;omega,λe=>by have:=ah g e;omega⟩
 have hL:LOk L:=by
  refine⟨⟨λX X' h c=>⟨h.1.trans (c.new ae),?_,Ec h.2.2.1 c (λg e=>ai g (by have:=Xk hown e;omega) (by have:=QQ hown e;omega)),λi v hi=>Ec (h.2.2.2.1 i v hi) c (λg e=>ai g (by have:=Xk (hks i v hi) e;omega) (by have:=QQ (hks i v hi) e;omega)),Ec h.2.2.2.2 c (λg e=>?_)⟩,al,λg e=>⟨Xk s e,by have:=o g e;show g≠M;omega,λd=>ay g d e⟩,λg d=>⟨an g d,by have:=ah g d;show g≠M;omega⟩,ax,by show fuel.toNat<=20000;omega,hbl,hMw,by show w.heap.size<=W.heap.size;omega⟩,λX h q t am=>?_,λX h=>hok.go h.1,λX h i g d=>?_,u,λX h=>h.2.1⟩
  ·obtain⟨arr,j,he,hm⟩:=h.2.1;have:=ai PB (by omega) (by omega);exact⟨arr,j,(c.block PB this.1 this.2.1 this.2.2.1 this.2.2.2).trans he,hm⟩
  ·refine⟨Xk k e,by have:=QQ k e;show g≠M;omega,λe2=>?_,λd=>?_⟩
   ·rcases ZP s k (by decide)with h0|h0
    ·rw[h0]at e;cases e
    ·exact h0 (e2.trans e.symm)
   ·obtain⟨cs,hr⟩:=af g d;exact Qz k hr (by decide) e
  ·have ap:q<ks.length:=by have:=am.lt;show q<ks.length;rw[hkl];exact this
   obtain⟨A,c,hv,aq⟩:=Kx (h.2.2.2.1 q _ (Lb ap));obtain⟨a3,c',ac,a0⟩:=Kx h.2.2.1;rw[ao]at ac;injection ac with e1 e2 e3;subst e1;obtain⟨ad,ag,hc⟩:=a0 q _ (Lb ap);have hz:=am.kidsZ;refine⟨ad,A,c,ag,?_,?_⟩
   ·rw[hc,hv,hz];simp[Ju]
   ·rw[hz]at aq;exact aq
  ·obtain⟨a1,c',y,az⟩:=Kx h.2.2.2.2;rw[z]at y;injection y with e1 e2 e3;subst e1;have m:i<p.V.length:=by have:=(La.1 d).1;rw[<-u];exact this
   have ht:=Lb m;obtain⟨ad,ag,hc⟩:=az i _ (Ajs d ht);exact⟨ad,_,ag,ht,hc⟩
 refine⟨L,rfl,rfl,rfl,hL,⟨[],.slice none 0 0,.slice none 0 0,rfl,?_,World.ownsRow_nil _ _ _ _,World.ownsRow_nil _ _ _ _,?_,?_,λx hx=>by simp at hx,List.Pairwise.nil,⟨bW,au,own1,aj,k⟩,Nat.le_refl _,LG _,Nat.le_refl _⟩,bW,ae⟩
 ·have hF:((fuel.toNat:Nat):Int)=fuel:=by omega
  have e:L.cells (Zk p.V args fuel.toNat) (.slice none 0 0) (.slice none 0 0)=Zr p kv vv av fuel PB:=by
   rw[ao,z, <-hkl.symm];unfold Lay.cells Zr;simp only[L,hF,u];rfl
  rw[e];exact r
 ·have hl:(Kn p.V args).length=p.V.length:=by simp[Kn]
  rw[L7 (by omega)]at s;have:=QR s (base':=w.heap.size) (by omega);show W.ownsRow w.heap.size 3 1 vv (Kn p.V args).length (Qi (Kn p.V args));rw[hl];exact this
 ·intro i g a d ha;have m:i<p.V.length:=by have:=(La.1 d).1;rw[<-u];exact this
  have ht:=Lb m;have:=n i g _ d ht;simp only[Zk,En,L4,ht,Nq,Nc]at ha;rw[<-ha];exact this
structure K1 (p:PgV)(G M B0 PB:Nat)(F:Int)(w3:World)(k:Nat)(W:World):Prop where
 ex:∃kv ks,Row W M 184 (Zr p kv (.slice none 0 0) (.slice none 0 0) F PB)/\ks.length=k/\W.ownsRow B0 22 1 kv ks.length ks/\(∀(i:Nat) (v:Value),ks[i]? =some v->W.ownsRow B0 3 1 v (kidsZ p.body (i:Int)).length (Qi (kidsZ p.body (i:Int))))/\ChM M B0 w3 W
theorem AgX (p:PgV)(aa:Option Addr)(acap:Nat)(args:List Int)(fuel:Int)(w:World)(hbl:p.body.length<=1000)(hn:args.length<=1000)(hok:p.ok w)(hvars:Xt p.params p.V)(hlen:(args.length:Int)=p.params)(hf:0<=fuel/\fuel<=10000)(hra:Rd w aa (Qi args)):
 Calls Tryz.prog 109 #[.agg p.cells,.slice aa args.length acap,.int .i64 fuel] w λe w'=>LoadR p args fuel.toNat w w' e:=by
 have cd:=Lh hok;have bj:=Lh hbl;have ec:=Lh hra;have cw:=Lh hvars;have ej:=Lh hlen;have Hf:=Lh hf;have Hn:=Lh hn;clear hok hbl hra hvars hlen hf hn;go_enter Tryz.func109,Tryz.ntmps109
 go_wp2_with (refine Qq _ _ rfl ?_)
 refine Stop.to ?_;refine Qe rfl 25 _ rfl p.cells rfl ?_;intro G w1 hG r1 b1;replace b1:=(Below.refl w.heap.size w).trans (b1.mono hG);obtain⟨S,s⟩:∃S,S=(λW=>Row W G 25 p.cells/\Below w.heap.size w W):=⟨_,rfl⟩;have db:St S:=by rw[s];infer_instance
 have S0:Hid (∀W,S W->Row W G 25 p.cells):=by show ∀W,_;rw[s];exact λW h=>h.1
 have S2:Hid (∀W,S W->Below w.heap.size w W):=by show ∀W,_;rw[s];exact λW h=>h.2
 have dm:S w1:=by rw[s];exact⟨r1,b1⟩
 clear s r1 b1;go_wp2_with fail
 refine wp_region_held (S:=S) (by kernel_rfl) ?_;simp only[Lk,Lc,Lo,Nat.reduceAdd,Li,Lj,Lp,Lm,Ll];show wpAnyH _ _ _ _ _ _ _ _ w1.drew;have hS:S w1.drew:=St.drew dm;clear dm;generalize w1.drew=wd at hS|-;(refine tkH 0 _ rfl (ZT rfl 25 _ rfl G rfl 25 p.cells _ S0.out Tryz.underlying25 rfl (by kernel_rfl)) ?_;simp only[Act.put,Qa,Qb,Qc]);(refine tkH 1 (.int .i64 fuel) rfl (Qd rfl (λW hW=>by(go_simp))) ?_;simp only[Act.put,Qa,Qb,Qc]);(refine wpAnyH_all (rs:=[2]) (by kernel_rfl) (by simp) (λi hi=>?_);obtain rfl:i=2:=by simpa using hi);refine Qf rfl rfl (λK2 c=>?_);refine Qo (w1:=wd) 144 #[] (by go_simp;try rfl) ?_
 refine(Aha wd).mono ?_;rintro e wp ⟨PB,rfl,cj⟩;refine⟨_,rfl,c _ _ ?_⟩;clear c K2;have em:w.heap.size<=PB:=Ld (S2.out _ hS).size cj.lo;replace hS:=db.go hS cj.below;have ci:=cj.map;clear cj;simp only[Act.put,Qa,Qb,Qc];refine⟨hS,?_⟩;(refine tkH 3 (.agg (Zr p (.slice none 0 0) (.slice none 0 0) (.slice none 0 0) fuel PB)) rfl (Qd rfl (λW hW=>by(go_simp;try rfl))) ?_;simp only[Act.put,Qa,Qb,Qc])
 (refine wpAnyH_all (rs:=[4]) (by kernel_rfl) (by simp) (λi hi=>?_);obtain rfl:i=4:=by simpa using hi);refine Qf rfl rfl (λK2 c=>?_);refine AfE 184 _ rfl (Zr p (.slice none 0 0) (.slice none 0 0) (.slice none 0 0) fuel PB) rfl ?_;intro M w3 hM r3 b3;refine c _ _ ?_;clear c K2;simp only[Act.put,Qa,Qb,Qc];have cf:w.heap.size<=M:=Ld (S2.out _ hS).size hM;have el:G<M:=Lg (S0.out _ hS).lt hM;have ef:PB<M:=Lg ci.lt hM;have cg:=db.go hS (b3.mono hM);have cn:=ci.below (b3.mono hM) ci.lt;refine⟨cg,?_⟩;(refine tkH 5 (.pointer (some ⟨M,0,none⟩)) rfl (Qd rfl (λW hW=>by(go_simp))) ?_;simp only[Act.put,Qa,Qb,Qc]);refine wpAnyH_done (by kernel_rfl) ?_ _;have R3:=Lh r3;have G3:=Lh (S0.out _ cg);have B3:=Lh (S2.out _ cg);have P3:=Lh cn;clear S0 S2 db hS cg ci cn r3 b3 hM;clear S wd wp w1;have c2:=G3.out.cellv (i:=2) (v:=.slice p.ba p.body.length p.bcap) rfl;go_wp2_with fail
 obtain⟨B0,c5⟩:∃B0,B0=w3.heap.size:=⟨_,rfl⟩;have ee:M<B0:=by rw[c5];exact R3.out.lt
 have cb:=Lh c5;clear c5 c2;go_loopw [8,20] (λ_ i W=>∃(k:Nat),i=.int .i64 (k:Int)/\k<=p.body.length/\Hid (K1 p G M B0 PB fuel w3 k W)) (λ_ i _=>p.body.length-(intOf i).toNat)
 case atStart=>exact⟨0,rfl,Nat.zero_le _,Lh ⟨.slice none 0 0,[],R3.out,rfl,World.ownsRow_nil _ _ _ _,λi v h=>by simp at h,ChM.refl _ _ _⟩⟩
 case round=>
  obtain⟨k,rfl,hk,hK⟩:=hrel;by_cases bf:k<p.body.length
  ·obtain⟨kv,ks,r,bt,ab,bu,ac⟩:=hK.out;have dr:Below w.heap.size w wr:=B3.out.trans (ac.to_below (by omega) cf);obtain⟨J,o⟩:∃J,J=(λW=>Row W M 184 (Zr p kv (.slice none 0 0) (.slice none 0 0) fuel PB)/\W.ownsRow B0 22 1 kv ks.length ks/\(∀(i:Nat) (v:Value),ks[i]? =some v->W.ownsRow B0 3 1 v (kidsZ p.body (i:Int)).length (Qi (kidsZ p.body (i:Int))))/\ChM M B0 w3 W/\Row W G 25 p.cells/\Below w.heap.size w W):=⟨_,rfl⟩
   have a8:St J:=by
    rw[o];refine⟨λ{A A'} h b=>⟨h.1.below b h.1.lt,QB h.2.1 b,λi v hi=>QB (h.2.2.1 i v hi) b,h.2.2.2.1.trans (.below (b.mono ?_)),h.2.2.2.2.1.below b h.2.2.2.2.1.lt,h.2.2.2.2.2.trans (b.mono h.2.2.2.2.2.size)⟩⟩;have:=h.2.2.2.1.size;have:=cb.out;omega
   have hJ:J wr:=by rw[o];exact⟨r,ab,bu,ac,G3.out.chm ac (by omega) (by omega),dr⟩
   have J0:Hid (∀W,J W->Row W M 184 (Zr p kv (.slice none 0 0) (.slice none 0 0) fuel PB)):=by show ∀W,_;rw[o];exact λW h=>h.1
   have J1:Hid (∀W,J W->W.ownsRow B0 22 1 kv ks.length ks):=by show ∀W,_;rw[o];exact λW h=>h.2.1
   have J2:Hid (∀W,J W->∀(i:Nat) (v:Value),ks[i]? =some v->W.ownsRow B0 3 1 v (kidsZ p.body (i:Int)).length (Qi (kidsZ p.body (i:Int)))):=by show ∀W,_;rw[o];exact λW h=>h.2.2.1
   have J3:Hid (∀W,J W->ChM M B0 w3 W):=by show ∀W,_;rw[o];exact λW h=>h.2.2.2.1
   have J4:Hid (∀W,J W->Row W G 25 p.cells):=by show ∀W,_;rw[o];exact λW h=>h.2.2.2.2.1
   have J5:Hid (∀W,J W->Below w.heap.size w W):=by show ∀W,_;rw[o];exact λW h=>h.2.2.2.2.2
   have bc:=Lh bt;obtain⟨i0,an,ao,ap,aq⟩:=info_parts AjV;clear o r ab bu ac dr hK bt;obtain⟨S,s⟩:∃S:World->Prop,S=(λW=>Row W G 25 p.cells/\Row W M 184 (Zr p kv (.slice none 0 0) (.slice none 0 0) fuel PB)):=⟨_,rfl⟩;have S0:Hid (∀W,S W->Row W G 25 p.cells):=by show ∀W,_;rw[s];exact λW h=>h.1
   have S2:Hid (∀W,S W->Row W M 184 (Zr p kv (.slice none 0 0) (.slice none 0 0) fuel PB)):=by show ∀W,_;rw[s];exact λW h=>h.2
   have S1:Hid (∀W,Row W G 25 p.cells->Row W M 184 (Zr p kv (.slice none 0 0) (.slice none 0 0) fuel PB)->S W):=by show ∀W,_;rw[s];exact λW h k=>⟨h,k⟩
   clear s;go_wp2_with fail
   refine J8 (last:=13) (S:=S) (by kernel_rfl) ?_;simp only[Lk,Lc,Lo,Nat.reduceAdd,Li,Lj,Lp,Lm,Ll];have a2:J wr.drew:=St.drew hJ;clear hJ;generalize wr.drew=wd at a2|-;have eg:S wd:=S1.out _ (J4.out _ a2) (J0.out _ a2);(refine Zf (i:=0) (v:=.pointer (some ⟨M,0,none⟩)) rfl (by kernel_rfl) (by kernel_rfl) (by kernel_rfl) (by kernel_rfl) (λ_ _ _ h=>h) (Qt (Qd rfl (λW hW=>by(go_simp)))) (by assumption) ?_;simp only[Act.put,Qa,Qb,Qc]);(refine Zf (i:=1) (v:=.pointer (some ⟨M,0,none⟩)) rfl (by kernel_rfl) (by kernel_rfl) (by kernel_rfl) (by kernel_rfl) (λ_ _ _ h=>h) (Qt (Qd rfl (λW hW=>by(go_simp)))) (by assumption) ?_;simp only[Act.put,Qa,Qb,Qc]);(refine Zf (i:=2) (v:=.pointer (some ⟨M,0,none⟩)) rfl (by kernel_rfl) (by kernel_rfl) (by kernel_rfl) (by kernel_rfl) (λ_ _ _ h=>h) (Qt (Qd rfl (λW hW=>by(go_simp)))) (by assumption) ?_;simp only[Act.put,Qa,Qb,Qc]);(refine Zf (i:=3) (v:=.pointer (some ⟨M,3,none⟩)) rfl (by kernel_rfl) (by kernel_rfl) (by kernel_rfl) (by kernel_rfl) (λ_ _ _ h=>h) (Qt (Qd rfl (λW hW=>by(go_simp)))) (by assumption) ?_;simp only[Act.put,Qa,Qb,Qc]);(refine Zf (i:=4) (v:=kv) rfl (by kernel_rfl) (by kernel_rfl) (by kernel_rfl) (by kernel_rfl) (λ_ _ _ h=>h) (Qt (Qd rfl (λW hW=>by((have h:=(S2.out W hW).cellv (i:=3) (v:=kv) rfl;go_simp))))) (by assumption) ?_;simp only[Act.put,Qa,Qb,Qc]);(refine Zf (i:=5) (v:=.pointer (some ⟨G,2,none⟩)) rfl (by kernel_rfl) (by kernel_rfl) (by kernel_rfl) (by kernel_rfl) (λ_ _ _ h=>h) (Qt (Qd rfl (λW hW=>by(go_simp)))) (by assumption) ?_;simp only[Act.put,Qa,Qb,Qc]);(refine Zf (i:=6) (v:=.slice p.ba p.body.length p.bcap) rfl (by kernel_rfl) (by kernel_rfl) (by kernel_rfl) (by kernel_rfl) (λ_ _ _ h=>h) (Qt (Qd rfl (λW hW=>by((have h:=(S0.out W hW).cellv (i:=2) (v:=.slice p.ba p.body.length p.bcap) rfl;go_simp))))) (by assumption) ?_;simp only[Act.put,Qa,Qb,Qc]);(refine Zf (i:=7) (v:=.int .i64 (k:Int)) rfl (by kernel_rfl) (by kernel_rfl) (by kernel_rfl) (by kernel_rfl) (λ_ _ _ h=>h) (Qt (Qd rfl (λW hW=>by(go_simp)))) (by assumption) ?_;simp only[Act.put,Qa,Qb,Qc]);(refine Qy (rs:=[8]) (by kernel_rfl) (by simp) (λi hi=>?_);obtain rfl:i=8:=by simpa using hi);refine Qf rfl rfl (λK2 c=>?_);refine Qo (w1:=wd) 133 #[.slice p.ba p.body.length p.bcap,.int .i64 (k:Int)] (by go_simp;try rfl) ?_
   refine(UF p.ba p.bcap p.body (k:Int) wd (cd.out.go (J5.out _ a2)).brd bj.out).mono ?_;rintro e w4 ⟨v,rfl,ck,b4⟩;obtain⟨vA,vn,vc,rfl⟩:=Afj ck;refine⟨_,rfl,c _ _ ?_⟩;clear c K2;have ce:J w4:=a8.go a2 b4;have dn:S w4:=S1.out _ (J4.out _ ce) (J0.out _ ce);have dz:=Jj ck;have df:=Lh dz;have d3:=QR ck (by have:=(J3.out _ a2).size;have:=cb.out;omega:B0<=(wd).heap.size);have dh:=Lh d3;clear ck d3 dz b4;simp only[Act.put,Qa,Qb,Qc];refine⟨λ_=>dn,?_⟩;(refine Qy (rs:=[9]) (by kernel_rfl) (by simp) (λi hi=>?_);obtain rfl:i=9:=by simpa using hi);refine Qf rfl rfl (λK2 c=>?_);refine Qn (.slice (some ⟨w4.heap.size,0,none⟩) 1 1) (w1:=w4.alloc (.cells #[.slice vA vn vc] 22)) (by have h:=df.out;go_simp;try rfl) ?_
   refine c _ _ ?_;clear c K2;have ah:J (w4.alloc (.cells #[.slice vA vn vc] 22)):=a8.go ce ((Below.refl _ _).alloc (Nat.le_refl _) _);have dp:S (w4.alloc (.cells #[.slice vA vn vc] 22)):=S1.out _ (J4.out _ ah) (J0.out _ ah);have d1:=dh.out.alloc (.cells #[.slice vA vn vc] 22);have cu:=Lh d1;clear d1;simp only[Act.put,Qa,Qb,Qc];refine⟨λ_=>dp,?_⟩;(refine Qy (rs:=[10]) (by kernel_rfl) (by simp) (λi hi=>?_);obtain rfl:i=10:=by simpa using hi);refine Qf rfl rfl (λK2 c=>?_);have cp:B0<=(w4.alloc (.cells #[.slice vA vn vc] 22)).heap.size:=by have:=(J3.out _ ah).size;have:=cb.out;omega
   refine KF (.tmp 27) (.tmp 32) 26 rfl B0 22 i0 (.slice none 0 0) 1 24 Tryz.underlying26 an ao ap aq rfl (by decide) kv ks.length ks rfl (J1.out _ ah) ⟨w4.heap.size,0,none⟩ 1 1 [.slice vA vn vc] rfl rfl (cell_one_new _ _ _) (by intro u hu;rw[Lv.1 hu];exact df.out) (by have:=bc.out;have:=bj.out;unfold maxLen;omega) (by have:=bc.out;have:=bj.out;omega) cp ?_;intro cl w6 a6 bd _;refine c _ _ ?_;clear c K2;have o5:=J1.out _ ah;have c6:=(J4.out _ ah).grown bd (λe=>by have:=QQ o5 e;omega);have c7:=(J0.out _ ah).grown bd (Qz o5 (J0.out _ ah) (by decide));have d2:=ZB cu.out bd (ZP cu.out o5 (by decide));have dv:∀(i:Nat) (u:Value),ks[i]? =some u->w6.ownsRow B0 3 1 u (kidsZ p.body (i:Int)).length (Qi (kidsZ p.body (i:Int))):=λi u hi=>ZB (J2.out _ ah i u hi) bd (ZP (J2.out _ ah i u hi) o5 (by decide));have ds:=(J3.out _ ah).trans (.grown bd cp (λk e=>QQ o5 e));have cm:=Jj a6;have ek:=Lh c6;have d7:=Lh c7;have ed:=Lh d2;have d9:=Lh dv;have d8:=Lh ds;have eb:=Lh a6;simp only[Act.put,Qa,Qb,Qc];have c8:S w6:=S1.out _ c6 c7;refine⟨λ_=>c8,?_⟩;clear c6 c7 d2 dv ds a6 bd o5 ah dp ce dn a2 eg cu dh;(refine Qy (rs:=[11]) (by kernel_rfl) (by simp) (λi hi=>?_);obtain rfl:i=11:=by simpa using hi);refine Qf rfl rfl (λK2 c=>?_);refine Qn (.pointer (some ⟨M,0,none⟩)) (w1:=w6) (by go_simp) ?_;refine c _ _ ?_;clear c K2;simp only[Act.put,Qa,Qb,Qc];refine⟨λ_=>c8,?_⟩;(refine Qy (rs:=[12]) (by kernel_rfl) (by simp) (λi hi=>?_);obtain rfl:i=12:=by simpa using hi);refine Qf rfl rfl (λK2 c=>?_);refine Qn (.pointer (some ⟨M,3,none⟩)) (w1:=w6) (by go_simp) ?_;refine c _ _ ?_;clear c K2;simp only[Act.put,Qa,Qb,Qc];refine⟨λ_=>c8,?_⟩;(refine Qy (rs:=[13]) (by kernel_rfl) (by simp) (λi hi=>?_);obtain rfl:i=13:=by simpa using hi);refine Qf rfl rfl (λK2 c=>?_);refine ZX 26 (.tmp 35) (.tmp 33) rfl M 3 rfl _ rfl [cl] (by cases cl<;>first|rfl|cases cm) 184 _ (Zr p cl (.slice none 0 0) (.slice none 0 0) fuel PB) d7.out (by kernel_rfl) (by show 3+1<=14;omega) (by simpa using cm) rfl ?_
   intro w7 r7 o7;refine c _ _ ?_;clear c K2;simp only[Act.put,Qa,Qb,Qc];refine⟨λh=>absurd rfl h,?_⟩;refine Ka (by kernel_rfl) ?_ _
   have dk:K1 p G M B0 PB fuel w3 (k+1) w7:=by
    have ne:∀{e:TypeId} {u:Value} {n:Nat} {xs:List Value},w6.ownsRow B0 e 1 u n xs->w7.ownsRow B0 e 1 u n xs:=λh=>Qx h o7 (λe=>by have:=QQ h e;omega)
    refine⟨cl,ks++[.slice vA vn vc],r7,by simp[bc.out],by simpa using ne eb.out,λi u hi=>?_,d8.out.trans (.only o7)⟩;rcases Nk i ks.length with hl|hl|hl
    ·rw[L3 hl]at hi;exact ne (d9.out i u hi)
    ·subst hl;rw[Lx (Nat.le_refl _),N3]at hi;injection hi with hi;subst hi;rw[bc.out];exact ne ed.out
    ·rw[Lx (by omega)]at hi;have:=(La.1 hi).1;simp at this;omega
   have d6:=Lh dk;clear dk r7 o7;have hbl:=bj.out;go_wp2_with fail
   go_roundw
   case rel=>exact⟨k+1,by go_num,by omega,d6⟩
   case measure=>simp[intOf];omega
  ·obtain rfl:k=p.body.length:=by omega
   clear bf hk
   have c1:wr.cell? ⟨G,1,none⟩=some (.slice p.va p.V.length p.vcap):=by
    obtain⟨_,_,_,_,_,_,ac⟩:=hK.out;exact(G3.out.chm ac (by omega) (by omega)).cellv (i:=1) rfl
   go_wp2_with fail
   obtain⟨W1,rfl⟩:∃W1,W1=wr:=⟨_,rfl⟩;obtain⟨kv,ks,r,bt,ab,bu,ac⟩:=hK.out;have R1:=Lh r;have bc:=Lh bt;have dg:=Lh ab;have ea:=Lh bu;have dd:=Lh ac;obtain⟨q,dj⟩:∃q,q=W1.heap.size:=⟨_,rfl⟩;have dc:=Lh dj;have di:B0<=q:=by have:=ac.size;have:=cb.out;omega
   have en:p.V.length<=12:=cw.out.2.2.1;clear hK c1 r bt ab bu ac dj;go_loopw [9,10,11,40] (λ_ _ _ i W=>∃(k:Nat),i=.int .i64 (k:Int)/\k<=p.V.length/\Hid (K2 p M q PB fuel kv args W1 k W)) (λ_ _ _ i _=>p.V.length-(intOf i).toNat)
   case atStart=>exact⟨0,rfl,Nat.zero_le _,Lh ⟨.slice none 0 0,.slice none 0 0,[],R1.out,rfl,by simpa[Qi]using World.ownsRow_nil W1 q 3 1,by simpa[asL]using World.ownsRow_nil W1 q 22 1,λi g t h=>by simp at h,λg h=>by simp at h,List.nodup_nil,λg h=>by simp at h,ChM.refl _ _ _⟩⟩
   case round=>
    obtain⟨k,rfl,hk,hK⟩:=hrel;by_cases bf:k<p.V.length
    ·obtain⟨vv,av,gs,r,be,d5,dq,bw,du,dx,dy,ac⟩:=hK.out;obtain⟨t,ht⟩:∃t,p.V[k]? =some t:=⟨_,Lb bf⟩;have c9:Below w.heap.size w wr:=B3.out.trans ((dd.out.to_below (by omega) cf).trans (ac.to_below (by omega) cf));obtain⟨vd,d4,cv⟩:=Zg (cd.out.go c9).vrd ht;have co:q<=wr.heap.size:=by have:=ac.size;have:=dc.out;omega
     have d0:InI t:=cd.out.vin t (Lf ht);obtain⟨J,o⟩:∃J,J=(λW=>Row W M 184 (Zr p kv vv av fuel PB)/\W.ownsRow q 3 1 vv k (Qi ((Kn p.V args).take k))/\W.ownsRow q 22 1 av k (asL gs p.V)/\(∀(i g:Nat) (t:Int),gs[i]? =some g->p.V[i]? =some t->Row W g 3 (Qi (List.replicate (QC t).toNat 0)).toArray)/\ChM M q W1 W/\q<=W.heap.size):=⟨_,rfl⟩
     have a8:St J:=by
      rw[o];exact⟨λ{A A'} h b=>⟨h.1.below b h.1.lt,QB h.2.1 b,QB h.2.2.1 b,λi g t m y=>(h.2.2.2.1 i g t m y).below b (h.2.2.2.1 i g t m y).lt,h.2.2.2.2.1.trans (.below (b.mono h.2.2.2.2.2)),Ld h.2.2.2.2.2 b.size⟩⟩
     have hJ:J wr:=by rw[o];exact⟨r,d5,dq,bw,ac,co⟩
     have J0:Hid (∀W,J W->Row W M 184 (Zr p kv vv av fuel PB)):=by show ∀W,_;rw[o];exact λW h=>h.1
     have J1:Hid (∀W,J W->W.ownsRow q 3 1 vv k (Qi ((Kn p.V args).take k))):=by show ∀W,_;rw[o];exact λW h=>h.2.1
     have J2:Hid (∀W,J W->W.ownsRow q 22 1 av k (asL gs p.V)):=by show ∀W,_;rw[o];exact λW h=>h.2.2.1
     have J3:Hid (∀W,J W->∀(i g:Nat) (t:Int),gs[i]? =some g->p.V[i]? =some t->Row W g 3 (Qi (List.replicate (QC t).toNat 0)).toArray):=by show ∀W,_;rw[o];exact λW h=>h.2.2.2.1
     have J4:Hid (∀W,J W->ChM M q W1 W):=by show ∀W,_;rw[o];exact λW h=>h.2.2.2.2.1
     have J5:Hid (∀W,J W->q<=W.heap.size):=by show ∀W,_;rw[o];exact λW h=>h.2.2.2.2.2
     have bb:=Lh be;have a9:=Lh du;have de:=Lh dx;have cc:=Lh dy;have Ht:=Lh ht;obtain⟨i0,an,ao,ap,aq⟩:=info_parts Abm;have c4:=r.cellv (i:=4) (v:=vv) rfl;have hra:=ec.out.go (c9.mono (Nat.le_refl _));clear o r d5 dq bw ac co hK be du dx dy ht c9;by_cases dw:k<args.length
     ·obtain⟨ad,eh,ca⟩:=Zg hra (Lb dw);have dt:decide ((k:Int)<(args.length:Int))=true:=by simp;omega
      have hx:args.getD k 0=args[k]:=by simp[List.getD,Lb dw]
      rw[<-hx]at ca;obtain⟨xk,da⟩:∃xk,args.getD k 0=xk:=⟨_,rfl⟩;rw[da]at ca;have cx:=Lh da;clear hx da;rw[d4,eh];go_wp2_with (at_builtin;refine Uv ?_)
      refine Stop.to ?_;refine(wpList_append_own_at _ rfl (.tmp 57) (.tmp 59) 22 rfl q 3 i0 (.int .i64 0) 1 8 Tryz.underlying22 an ao ap aq rfl (by decide) vv k _ rfl (QB (J1.out _ hJ) ((Below.refl _ _).alloc (Nat.le_refl _) _)) ⟨wr.heap.size,0,none⟩ 1 1 [.int .i64 xk] rfl rfl (cell_one_new _ _ _) (by simp[Value.oneCell']) (by unfold maxLen;omega) (by omega) (by have:=J5.out _ hJ;simp;omega) ?_);intro l W2 ab x _ bs;have d:J (wr.alloc (.cells #[.int .i64 xk] 3)):=a8.go hJ ((Below.refl _ _).alloc (Nat.le_refl _) _);have b2:=(J0.out _ d).grown x (Qz (J1.out _ d) (J0.out _ d) (by decide));have bn:=ZB (J2.out _ d) x (ZP (J2.out _ d) (J1.out _ d) (by decide));have al:∀(i g:Nat) (t:Int),gs[i]? =some g->p.V[i]? =some t->Row W2 g 3 (Qi (List.replicate (QC t).toNat 0)).toArray:=λi g t m y=>(J3.out _ d i g t m y).grown x (cc.out g (Lf m));have bo:=(J4.out _ d).trans (.grown x (J5.out _ d) (λk e=>QQ (J1.out _ d) e));have b6:q<=W2.heap.size:=Ld (J5.out _ d) x.size
      have ax:∀g∈gs,l.ownBlock≠some g:=by
       intro g au;rcases bs with e|e
       ·rw[e];exact cc.out g au
       ·obtain⟨i,a5,hi⟩:=Na au;have m:gs[i]? =some g:=by rw[Lb a5,hi]
        have y:p.V[i]? =some (p.V[i]'(by have:=bb.out;omega)):=Lb _;have:=(J3.out _ d i g _ m y).lt;rw[e];intro e3;injection e3 with e3;omega
      have ae:W2.ownsRow q 3 1 l (k+1) (Qi ((Kn p.V args).take (k+1))):=by rw[Aaz bf,cx.out];simpa[Qi]using ab
      have ay:=Jj ae;have bm:=Lh b2;have bg:=Lh bn;have aj:=Lh al;have bh:=Lh bo;have bk:=Lh ax;have ai:=Lh ae;clear b2 bn al bo ax ae ab x bs d hJ c4 hra cv;go_wp2_with (refine Qs _ _ _ rfl ?_)
      refine Stop.to ?_;refine Qm rfl 22 _ _ rfl M 4 rfl _ rfl [l] (by cases l<;>first|rfl|cases ay) 184 _ (Zr p kv l av fuel PB) bm.out (by kernel_rfl) (by show 4+1<=14;omega) (by simpa using ay) rfl ?_
      intro W3 r3 o3
      have k3:K3 p M q PB fuel kv l av args gs W1 k W3:=by
       have ne:∀{e:TypeId} {u:Value} {n:Nat} {xs:List Value},W2.ownsRow q e 1 u n xs->W3.ownsRow q e 1 u n xs:=λh=>Qx h o3 (λe=>by have:=QQ h e;omega)
       exact⟨r3,ne ai.out,ne bg.out,λi g t m y=>(aj.out i g t m y).only o3 (by have:=a9.out g (Lf m);omega),bh.out.trans (.only o3),by rw[o3.size];exact b6⟩
      have bz:K3 p M q PB fuel kv l av args gs W1 k W3.drew:=k3.go ⟨rfl,rfl,rfl,Nat.le_refl _,λ_ _=>rfl⟩;have KE:=Lh bz;clear r3 o3 k3 bz bm bg aj bh ai b6 J0 J1 J2 J3 J4 J5 a8 J an ao ap aq i0;obtain⟨i0,an,ao,ap,aq⟩:=info_parts Adn;obtain⟨n,hn⟩:∃n:Nat,QC t=(n:Int):=⟨(QC t).toNat,by unfold QC;split<;>omega⟩
      have ei:n<=8:=by unfold QC at hn;split at hn<;>omega
      have bv:∀W:World,(Instr.makeSlice 22 (.int .i64 (n:Int)) (.int .i64 (n:Int))).run Tryz.prog W=.ok (.slice (some ⟨W.heap.size,0,none⟩) n n) (W.alloc (.cells (Qi (List.replicate n 0)).toArray 3)):=λW=>by
       have:=run_make_row' (P:=Tryz.prog) (w:=W) 22 3 (.int .i64 0) 8 Tryz.underlying22 Jc rfl .i64 .i64 n (by omega) (by omega);rw[show madeCells #[Value.int .i64 0] n=(Qi (List.replicate n 0)).toArray from by rw[KH];simp[Qi]]at this;exact this
      have ct:=Lh bv;have a0:=Lh hn;clear bv hn;obtain⟨S,s⟩:∃S:World->Prop,S=(λW=>Row W M 184 (Zr p kv l av fuel PB)):=⟨_,rfl⟩;have S0:Hid (∀W,S W->Row W M 184 (Zr p kv l av fuel PB)):=by show ∀W,_;rw[s];exact λW h=>h
      have S1:Hid (∀W,Row W M 184 (Zr p kv l av fuel PB)->S W):=by show ∀W,_;rw[s];exact λW h=>h
      clear s;go_wp2_with fail
      refine J8 (last:=12) (S:=S) (by kernel_rfl) ?_;simp only[Lk,Lc,Lo,Nat.reduceAdd,Li,Lj,Lp,Lm,Ll];generalize W3.drew=we at KE|-;have hS:=S1.out _ KE.out.row;(refine Zf (i:=0) (v:=.pointer (some ⟨M,0,none⟩)) rfl (by kernel_rfl) (by kernel_rfl) (by kernel_rfl) (by kernel_rfl) (λ_ _ _ h=>h) (Qt (Qd rfl (λW hW=>by(go_simp)))) (by assumption) ?_;simp only[Act.put,Qa,Qb,Qc]);(refine Zf (i:=1) (v:=.pointer (some ⟨M,0,none⟩)) rfl (by kernel_rfl) (by kernel_rfl) (by kernel_rfl) (by kernel_rfl) (λ_ _ _ h=>h) (Qt (Qd rfl (λW hW=>by(go_simp)))) (by assumption) ?_;simp only[Act.put,Qa,Qb,Qc]);(refine Zf (i:=2) (v:=.pointer (some ⟨M,0,none⟩)) rfl (by kernel_rfl) (by kernel_rfl) (by kernel_rfl) (by kernel_rfl) (λ_ _ _ h=>h) (Qt (Qd rfl (λW hW=>by(go_simp)))) (by assumption) ?_;simp only[Act.put,Qa,Qb,Qc]);(refine Zf (i:=3) (v:=.pointer (some ⟨M,5,none⟩)) rfl (by kernel_rfl) (by kernel_rfl) (by kernel_rfl) (by kernel_rfl) (λ_ _ _ h=>h) (Qt (Qd rfl (λW hW=>by(go_simp)))) (by assumption) ?_;simp only[Act.put,Qa,Qb,Qc]);(refine Zf (i:=4) (v:=av) rfl (by kernel_rfl) (by kernel_rfl) (by kernel_rfl) (by kernel_rfl) (λ_ _ _ h=>h) (Qt (Qd rfl (λW hW=>by((have h:=(S0.out _ hW).cellv (i:=5) (v:=av) rfl;go_simp))))) (by assumption) ?_;simp only[Act.put,Qa,Qb,Qc]);(refine Zf (i:=5) (v:=.int .i64 t) rfl (by kernel_rfl) (by kernel_rfl) (by kernel_rfl) (by kernel_rfl) (λ_ _ _ h=>h) (Qt (Qd rfl (λW hW=>by(go_simp)))) (by assumption) ?_;simp only[Act.put,Qa,Qb,Qc]);(refine Qy (rs:=[6]) (by kernel_rfl) (by simp) (λi hi=>?_);obtain rfl:i=6:=by simpa using hi);refine Qf rfl rfl (λK2 c=>?_);refine Qo (w1:=we) 97 #[.int .i64 t] (by go_simp;try rfl) ?_
      refine(KS t we d0).mono ?_;rintro e w4 ⟨rfl,rfl⟩;rw[a0.out];refine⟨_,rfl,c _ _ ?_⟩;clear c K2;simp only[Act.put,Qa,Qb,Qc];refine⟨λ_=>hS,?_⟩;(refine Qy (rs:=[7]) (by kernel_rfl) (by simp) (λi hi=>?_);obtain rfl:i=7:=by simpa using hi);refine Qf rfl rfl (λK2 c=>?_);refine Qn (.slice (some ⟨we.heap.size,0,none⟩) n n) (Xp rfl rfl rfl (ct.out we)) ?_;refine c _ _ ?_;clear c K2;have KM:=KE.out.go (A':=we.alloc (.cells (Qi (List.replicate n 0)).toArray 3)) ((Below.refl _ _).alloc (Nat.le_refl _) _);simp only[Act.put,Qa,Qb,Qc];refine⟨λ_=>S1.out _ KM.row,?_⟩;(refine Qy (rs:=[8]) (by kernel_rfl) (by simp) (λi hi=>?_);obtain rfl:i=8:=by simpa using hi);refine Qf rfl rfl (λK2 c=>?_);refine Qn (.slice (some ⟨(we.alloc (.cells (Qi (List.replicate n 0)).toArray 3)).heap.size,0,none⟩) 1 1) (w1:=(we.alloc (.cells (Qi (List.replicate n 0)).toArray 3)).alloc (.cells #[.slice (some ⟨we.heap.size,0,none⟩) n n] 22)) (by go_simp;try rfl) ?_
      refine c _ _ ?_;clear c K2;have z:=KM.go (A':=(we.alloc (.cells (Qi (List.replicate n 0)).toArray 3)).alloc (.cells #[.slice (some ⟨we.heap.size,0,none⟩) n n] 22)) ((Below.refl _ _).alloc (Nat.le_refl _) _);simp only[Act.put,Qa,Qb,Qc];refine⟨λ_=>S1.out _ z.row,?_⟩;(refine Qy (rs:=[9]) (by kernel_rfl) (by simp) (λi hi=>?_);obtain rfl:i=9:=by simpa using hi);have a7:Row ((we.alloc (.cells (Qi (List.replicate n 0)).toArray 3)).alloc (.cells #[.slice (some ⟨we.heap.size,0,none⟩) n n] 22)) we.heap.size 3 (Qi (List.replicate n 0)).toArray:=(Row.new we _ _).alloc _;have gn:=KE.out.size
      have br:∀g∈gs,g<we.heap.size:=by
       intro g au;obtain⟨i,a5,hi⟩:=Na au;have m:gs[i]? =some g:=by rw[Lb a5,hi]
       have y:p.V[i]? =some (p.V[i]'(by have:=bb.out;omega)):=Lb _;exact(KE.out.rows i g _ m y).lt
      have b8:l.ownBlock≠some we.heap.size:=λe=>by have:=Xk KE.out.vv e;omega
      generalize bx:(we.alloc (.cells (Qi (List.replicate n 0)).toArray 3)).alloc (.cells #[.slice (some ⟨we.heap.size,0,none⟩) n n] 22)=w8 at*;have bq:∀(j:Nat) (u:Value),[Value.slice (some ⟨we.heap.size,0,none⟩) n n][j]? =some u->w8.cell? ((⟨(we.alloc (.cells (Qi (List.replicate n 0)).toArray 3)).heap.size,0,none⟩:Addr).add j)=some u:=by rw[<-bx];exact cell_one_new _ _ _
      clear bx;refine Qf rfl rfl (λK2 c=>?_);refine KF (.tmp 67) (.tmp 71) 26 rfl q 22 i0 (.slice none 0 0) 1 24 Tryz.underlying26 an ao ap aq rfl (by decide) av k _ rfl z.av _ 1 1 [Value.slice (some ⟨we.heap.size,0,none⟩) n n] rfl rfl bq (by simp[Value.oneCell']) (by unfold maxLen;omega) (by omega) z.size ?_;intro ar w9 af ag _;refine c _ _ ?_;clear c K2;have a3:=z.row.grown ag (Qz z.av z.row (by decide));have b7:=ZB z.vv ag (ZP z.vv z.av (by decide));have am:∀(i g:Nat) (t:Int),gs[i]? =some g->p.V[i]? =some t->Row w9 g 3 (Qi (List.replicate (QC t).toNat 0)).toArray:=λi g t m y=>(z.rows i g t m y).grown ag (Qz z.av (z.rows i g t m y) (by decide));have b5:=a7.grown ag (Qz z.av a7 (by decide));have bp:=z.ch.trans (.grown ag z.size (λk e=>QQ z.av e));have az:=Jj af;have cs:=Lh a3;have c0:=Lh b7;have a1:=Lh am;have cy:=Lh b5;have cq:=Lh bp;have bl:=Lh af;have cr:=Lh br;have c3:=Lh b8;simp only[Act.put,Qa,Qb,Qc];have a4:=S1.out _ a3;refine⟨λ_=>a4,?_⟩;clear a3 b7 am b5 bp af ag a7 bq z KM KE br b8;(refine Qy (rs:=[10]) (by kernel_rfl) (by simp) (λi hi=>?_);obtain rfl:i=10:=by simpa using hi);refine Qf rfl rfl (λK2 c=>?_);refine Qn (.pointer (some ⟨M,0,none⟩)) (w1:=w9) (by go_simp) ?_;refine c _ _ ?_;clear c K2;simp only[Act.put,Qa,Qb,Qc];refine⟨λ_=>a4,?_⟩;(refine Qy (rs:=[11]) (by kernel_rfl) (by simp) (λi hi=>?_);obtain rfl:i=11:=by simpa using hi);refine Qf rfl rfl (λK2 c=>?_);refine Qn (.pointer (some ⟨M,5,none⟩)) (w1:=w9) (by go_simp) ?_;refine c _ _ ?_;clear c K2;simp only[Act.put,Qa,Qb,Qc];refine⟨λ_=>a4,?_⟩;(refine Qy (rs:=[12]) (by kernel_rfl) (by simp) (λi hi=>?_);obtain rfl:i=12:=by simpa using hi);refine Qf rfl rfl (λK2 c=>?_);refine ZX 26 (.tmp 74) (.tmp 72) rfl M 5 rfl _ rfl [ar] (by cases ar<;>first|rfl|cases az) 184 _ (Zr p kv l ar fuel PB) cs.out (by kernel_rfl) (by show 5+1<=14;omega) (by simpa using az) rfl ?_
      intro b9 b0 ak;refine c _ _ ?_;clear c K2;simp only[Act.put,Qa,Qb,Qc];refine⟨λh=>absurd rfl h,?_⟩;refine Ka (by kernel_rfl) ?_ _
      have aw:K2 p M q PB fuel kv args W1 (k+1) b9:=by
       have ne:∀{e:TypeId} {u:Value} {n:Nat} {xs:List Value},w9.ownsRow q e 1 u n xs->b9.ownsRow q e 1 u n xs:=λh=>Qx h ak (λe=>by have:=QQ h e;omega)
       have be:=bb.out;subst be;refine⟨l,ar,gs++[we.heap.size],b0,by simp,ne c0.out,?_,λi g t' m y=>?_,λg x=>?_,?_,λg x=>?_,cq.out.trans (.only ak)⟩
       ·rw[AfK gs p.V we.heap.size t Ht.out,a0.out,Ln];exact ne bl.out
       ·rcases Nk i gs.length with hl|hl|hl
        ·rw[L3 hl]at m;exact(a1.out i g t' m y).only ak (by have:=a9.out g (Lf m);omega)
        ·subst hl;rw[Lx (Nat.le_refl _),N3]at m;injection m with m;subst m;rw[Ht.out]at y;injection y with y;subst y;rw[a0.out,Ln];exact cy.out.only ak (by omega)
        ·rw[Lx (by omega)]at m;have:=(La.1 m).1;simp at this;omega
       ·rcases L2.1 x with x|x
        ·exact a9.out g x
        ·rw[Lv.1 x];exact gn
       ·rw[List.nodup_append];refine⟨de.out,by simp,λa ha b hb e=>?_⟩;rw[Lv.1 hb]at e;have:=cr.out a ha;omega
       ·rcases L2.1 x with x|x
        ·exact bk.out g x
        ·rw[Lv.1 x];exact c3.out
      have bi:=Lh aw;clear aw b0 ak;go_wp2_with fail
      go_roundw
      case rel=>exact⟨k+1,by go_num,by omega,bi⟩
      case measure=>simp[intOf];omega
     ·have dt:decide ((k:Int)<(args.length:Int))=false:=by simp;omega
      have hx:args.getD k 0=0:=by simp[List.getD,Nh (show args.length<=k by omega)]
      have cx:=Lh hx;clear hx;rw[d4];go_wp2_with (at_builtin;refine Uv ?_)
      refine Stop.to ?_;refine(wpList_append_own_at _ rfl (.tmp 57) (.tmp 59) 22 rfl q 3 i0 (.int .i64 0) 1 8 Tryz.underlying22 an ao ap aq rfl (by decide) vv k _ rfl (QB (J1.out _ hJ) ((Below.refl _ _).alloc (Nat.le_refl _) _)) ⟨wr.heap.size,0,none⟩ 1 1 [.int .i64 0] rfl rfl (cell_one_new _ _ _) (by simp[Value.oneCell']) (by unfold maxLen;omega) (by omega) (by have:=J5.out _ hJ;simp;omega) ?_);intro l W2 ab x _ bs;have d:J (wr.alloc (.cells #[.int .i64 0] 3)):=a8.go hJ ((Below.refl _ _).alloc (Nat.le_refl _) _);have b2:=(J0.out _ d).grown x (Qz (J1.out _ d) (J0.out _ d) (by decide));have bn:=ZB (J2.out _ d) x (ZP (J2.out _ d) (J1.out _ d) (by decide));have al:∀(i g:Nat) (t:Int),gs[i]? =some g->p.V[i]? =some t->Row W2 g 3 (Qi (List.replicate (QC t).toNat 0)).toArray:=λi g t m y=>(J3.out _ d i g t m y).grown x (cc.out g (Lf m));have bo:=(J4.out _ d).trans (.grown x (J5.out _ d) (λk e=>QQ (J1.out _ d) e));have b6:q<=W2.heap.size:=Ld (J5.out _ d) x.size
      have ax:∀g∈gs,l.ownBlock≠some g:=by
       intro g au;rcases bs with e|e
       ·rw[e];exact cc.out g au
       ·obtain⟨i,a5,hi⟩:=Na au;have m:gs[i]? =some g:=by rw[Lb a5,hi]
        have y:p.V[i]? =some (p.V[i]'(by have:=bb.out;omega)):=Lb _;have:=(J3.out _ d i g _ m y).lt;rw[e];intro e3;injection e3 with e3;omega
      have ae:W2.ownsRow q 3 1 l (k+1) (Qi ((Kn p.V args).take (k+1))):=by rw[Aaz bf,cx.out];simpa[Qi]using ab
      have ay:=Jj ae;have bm:=Lh b2;have bg:=Lh bn;have aj:=Lh al;have bh:=Lh bo;have bk:=Lh ax;have ai:=Lh ae;clear b2 bn al bo ax ae ab x bs d hJ c4 hra cv;go_wp2_with (refine Qs _ _ _ rfl ?_)
      refine Stop.to ?_;refine Qm rfl 22 _ _ rfl M 4 rfl _ rfl [l] (by cases l<;>first|rfl|cases ay) 184 _ (Zr p kv l av fuel PB) bm.out (by kernel_rfl) (by show 4+1<=14;omega) (by simpa using ay) rfl ?_
      intro W3 r3 o3
      have k3:K3 p M q PB fuel kv l av args gs W1 k W3:=by
       have ne:∀{e:TypeId} {u:Value} {n:Nat} {xs:List Value},W2.ownsRow q e 1 u n xs->W3.ownsRow q e 1 u n xs:=λh=>Qx h o3 (λe=>by have:=QQ h e;omega)
       exact⟨r3,ne ai.out,ne bg.out,λi g t m y=>(aj.out i g t m y).only o3 (by have:=a9.out g (Lf m);omega),bh.out.trans (.only o3),by rw[o3.size];exact b6⟩
      have bz:K3 p M q PB fuel kv l av args gs W1 k W3.drew:=k3.go ⟨rfl,rfl,rfl,Nat.le_refl _,λ_ _=>rfl⟩;have KE:=Lh bz;clear r3 o3 k3 bz bm bg aj bh ai b6 J0 J1 J2 J3 J4 J5 a8 J an ao ap aq i0;obtain⟨i0,an,ao,ap,aq⟩:=info_parts Adn;obtain⟨n,hn⟩:∃n:Nat,QC t=(n:Int):=⟨(QC t).toNat,by unfold QC;split<;>omega⟩
      have ei:n<=8:=by unfold QC at hn;split at hn<;>omega
      have bv:∀W:World,(Instr.makeSlice 22 (.int .i64 (n:Int)) (.int .i64 (n:Int))).run Tryz.prog W=.ok (.slice (some ⟨W.heap.size,0,none⟩) n n) (W.alloc (.cells (Qi (List.replicate n 0)).toArray 3)):=λW=>by
       have:=run_make_row' (P:=Tryz.prog) (w:=W) 22 3 (.int .i64 0) 8 Tryz.underlying22 Jc rfl .i64 .i64 n (by omega) (by omega);rw[show madeCells #[Value.int .i64 0] n=(Qi (List.replicate n 0)).toArray from by rw[KH];simp[Qi]]at this;exact this
      have ct:=Lh bv;have a0:=Lh hn;clear bv hn;obtain⟨S,s⟩:∃S:World->Prop,S=(λW=>Row W M 184 (Zr p kv l av fuel PB)):=⟨_,rfl⟩;have S0:Hid (∀W,S W->Row W M 184 (Zr p kv l av fuel PB)):=by show ∀W,_;rw[s];exact λW h=>h
      have S1:Hid (∀W,Row W M 184 (Zr p kv l av fuel PB)->S W):=by show ∀W,_;rw[s];exact λW h=>h
      clear s;go_wp2_with fail
      refine J8 (last:=12) (S:=S) (by kernel_rfl) ?_;simp only[Lk,Lc,Lo,Nat.reduceAdd,Li,Lj,Lp,Lm,Ll];generalize W3.drew=we at KE|-;have hS:=S1.out _ KE.out.row;(refine Zf (i:=0) (v:=.pointer (some ⟨M,0,none⟩)) rfl (by kernel_rfl) (by kernel_rfl) (by kernel_rfl) (by kernel_rfl) (λ_ _ _ h=>h) (Qt (Qd rfl (λW hW=>by(go_simp)))) (by assumption) ?_;simp only[Act.put,Qa,Qb,Qc]);(refine Zf (i:=1) (v:=.pointer (some ⟨M,0,none⟩)) rfl (by kernel_rfl) (by kernel_rfl) (by kernel_rfl) (by kernel_rfl) (λ_ _ _ h=>h) (Qt (Qd rfl (λW hW=>by(go_simp)))) (by assumption) ?_;simp only[Act.put,Qa,Qb,Qc]);(refine Zf (i:=2) (v:=.pointer (some ⟨M,0,none⟩)) rfl (by kernel_rfl) (by kernel_rfl) (by kernel_rfl) (by kernel_rfl) (λ_ _ _ h=>h) (Qt (Qd rfl (λW hW=>by(go_simp)))) (by assumption) ?_;simp only[Act.put,Qa,Qb,Qc]);(refine Zf (i:=3) (v:=.pointer (some ⟨M,5,none⟩)) rfl (by kernel_rfl) (by kernel_rfl) (by kernel_rfl) (by kernel_rfl) (λ_ _ _ h=>h) (Qt (Qd rfl (λW hW=>by(go_simp)))) (by assumption) ?_;simp only[Act.put,Qa,Qb,Qc]);(refine Zf (i:=4) (v:=av) rfl (by kernel_rfl) (by kernel_rfl) (by kernel_rfl) (by kernel_rfl) (λ_ _ _ h=>h) (Qt (Qd rfl (λW hW=>by((have h:=(S0.out _ hW).cellv (i:=5) (v:=av) rfl;go_simp))))) (by assumption) ?_;simp only[Act.put,Qa,Qb,Qc]);(refine Zf (i:=5) (v:=.int .i64 t) rfl (by kernel_rfl) (by kernel_rfl) (by kernel_rfl) (by kernel_rfl) (λ_ _ _ h=>h) (Qt (Qd rfl (λW hW=>by(go_simp)))) (by assumption) ?_;simp only[Act.put,Qa,Qb,Qc]);(refine Qy (rs:=[6]) (by kernel_rfl) (by simp) (λi hi=>?_);obtain rfl:i=6:=by simpa using hi);refine Qf rfl rfl (λK2 c=>?_);refine Qo (w1:=we) 97 #[.int .i64 t] (by go_simp;try rfl) ?_
      refine(KS t we d0).mono ?_;rintro e w4 ⟨rfl,rfl⟩;rw[a0.out];refine⟨_,rfl,c _ _ ?_⟩;clear c K2;simp only[Act.put,Qa,Qb,Qc];refine⟨λ_=>hS,?_⟩;(refine Qy (rs:=[7]) (by kernel_rfl) (by simp) (λi hi=>?_);obtain rfl:i=7:=by simpa using hi);refine Qf rfl rfl (λK2 c=>?_);refine Qn (.slice (some ⟨we.heap.size,0,none⟩) n n) (Xp rfl rfl rfl (ct.out we)) ?_;refine c _ _ ?_;clear c K2;have KM:=KE.out.go (A':=we.alloc (.cells (Qi (List.replicate n 0)).toArray 3)) ((Below.refl _ _).alloc (Nat.le_refl _) _);simp only[Act.put,Qa,Qb,Qc];refine⟨λ_=>S1.out _ KM.row,?_⟩;(refine Qy (rs:=[8]) (by kernel_rfl) (by simp) (λi hi=>?_);obtain rfl:i=8:=by simpa using hi);refine Qf rfl rfl (λK2 c=>?_);refine Qn (.slice (some ⟨(we.alloc (.cells (Qi (List.replicate n 0)).toArray 3)).heap.size,0,none⟩) 1 1) (w1:=(we.alloc (.cells (Qi (List.replicate n 0)).toArray 3)).alloc (.cells #[.slice (some ⟨we.heap.size,0,none⟩) n n] 22)) (by go_simp;try rfl) ?_
      refine c _ _ ?_;clear c K2;have z:=KM.go (A':=(we.alloc (.cells (Qi (List.replicate n 0)).toArray 3)).alloc (.cells #[.slice (some ⟨we.heap.size,0,none⟩) n n] 22)) ((Below.refl _ _).alloc (Nat.le_refl _) _);simp only[Act.put,Qa,Qb,Qc];refine⟨λ_=>S1.out _ z.row,?_⟩;(refine Qy (rs:=[9]) (by kernel_rfl) (by simp) (λi hi=>?_);obtain rfl:i=9:=by simpa using hi);have a7:Row ((we.alloc (.cells (Qi (List.replicate n 0)).toArray 3)).alloc (.cells #[.slice (some ⟨we.heap.size,0,none⟩) n n] 22)) we.heap.size 3 (Qi (List.replicate n 0)).toArray:=(Row.new we _ _).alloc _;have gn:=KE.out.size
      have br:∀g∈gs,g<we.heap.size:=by
       intro g au;obtain⟨i,a5,hi⟩:=Na au;have m:gs[i]? =some g:=by rw[Lb a5,hi]
       have y:p.V[i]? =some (p.V[i]'(by have:=bb.out;omega)):=Lb _;exact(KE.out.rows i g _ m y).lt
      have b8:l.ownBlock≠some we.heap.size:=λe=>by have:=Xk KE.out.vv e;omega
      generalize bx:(we.alloc (.cells (Qi (List.replicate n 0)).toArray 3)).alloc (.cells #[.slice (some ⟨we.heap.size,0,none⟩) n n] 22)=w8 at*;have bq:∀(j:Nat) (u:Value),[Value.slice (some ⟨we.heap.size,0,none⟩) n n][j]? =some u->w8.cell? ((⟨(we.alloc (.cells (Qi (List.replicate n 0)).toArray 3)).heap.size,0,none⟩:Addr).add j)=some u:=by rw[<-bx];exact cell_one_new _ _ _
      clear bx;refine Qf rfl rfl (λK2 c=>?_);refine KF (.tmp 67) (.tmp 71) 26 rfl q 22 i0 (.slice none 0 0) 1 24 Tryz.underlying26 an ao ap aq rfl (by decide) av k _ rfl z.av _ 1 1 [Value.slice (some ⟨we.heap.size,0,none⟩) n n] rfl rfl bq (by simp[Value.oneCell']) (by unfold maxLen;omega) (by omega) z.size ?_;intro ar w9 af ag _;refine c _ _ ?_;clear c K2;have a3:=z.row.grown ag (Qz z.av z.row (by decide));have b7:=ZB z.vv ag (ZP z.vv z.av (by decide));have am:∀(i g:Nat) (t:Int),gs[i]? =some g->p.V[i]? =some t->Row w9 g 3 (Qi (List.replicate (QC t).toNat 0)).toArray:=λi g t m y=>(z.rows i g t m y).grown ag (Qz z.av (z.rows i g t m y) (by decide));have b5:=a7.grown ag (Qz z.av a7 (by decide));have bp:=z.ch.trans (.grown ag z.size (λk e=>QQ z.av e));have az:=Jj af;have cs:=Lh a3;have c0:=Lh b7;have a1:=Lh am;have cy:=Lh b5;have cq:=Lh bp;have bl:=Lh af;have cr:=Lh br;have c3:=Lh b8;simp only[Act.put,Qa,Qb,Qc];have a4:=S1.out _ a3;refine⟨λ_=>a4,?_⟩;clear a3 b7 am b5 bp af ag a7 bq z KM KE br b8;(refine Qy (rs:=[10]) (by kernel_rfl) (by simp) (λi hi=>?_);obtain rfl:i=10:=by simpa using hi);refine Qf rfl rfl (λK2 c=>?_);refine Qn (.pointer (some ⟨M,0,none⟩)) (w1:=w9) (by go_simp) ?_;refine c _ _ ?_;clear c K2;simp only[Act.put,Qa,Qb,Qc];refine⟨λ_=>a4,?_⟩;(refine Qy (rs:=[11]) (by kernel_rfl) (by simp) (λi hi=>?_);obtain rfl:i=11:=by simpa using hi);refine Qf rfl rfl (λK2 c=>?_);refine Qn (.pointer (some ⟨M,5,none⟩)) (w1:=w9) (by go_simp) ?_;refine c _ _ ?_;clear c K2;simp only[Act.put,Qa,Qb,Qc];refine⟨λ_=>a4,?_⟩;(refine Qy (rs:=[12]) (by kernel_rfl) (by simp) (λi hi=>?_);obtain rfl:i=12:=by simpa using hi);refine Qf rfl rfl (λK2 c=>?_);refine ZX 26 (.tmp 74) (.tmp 72) rfl M 5 rfl _ rfl [ar] (by cases ar<;>first|rfl|cases az) 184 _ (Zr p kv l ar fuel PB) cs.out (by kernel_rfl) (by show 5+1<=14;omega) (by simpa using az) rfl ?_
      intro b9 b0 ak;refine c _ _ ?_;clear c K2;simp only[Act.put,Qa,Qb,Qc];refine⟨λh=>absurd rfl h,?_⟩;refine Ka (by kernel_rfl) ?_ _
      have aw:K2 p M q PB fuel kv args W1 (k+1) b9:=by
       have ne:∀{e:TypeId} {u:Value} {n:Nat} {xs:List Value},w9.ownsRow q e 1 u n xs->b9.ownsRow q e 1 u n xs:=λh=>Qx h ak (λe=>by have:=QQ h e;omega)
       have be:=bb.out;subst be;refine⟨l,ar,gs++[we.heap.size],b0,by simp,ne c0.out,?_,λi g t' m y=>?_,λg x=>?_,?_,λg x=>?_,cq.out.trans (.only ak)⟩
       ·rw[AfK gs p.V we.heap.size t Ht.out,a0.out,Ln];exact ne bl.out
       ·rcases Nk i gs.length with hl|hl|hl
        ·rw[L3 hl]at m;exact(a1.out i g t' m y).only ak (by have:=a9.out g (Lf m);omega)
        ·subst hl;rw[Lx (Nat.le_refl _),N3]at m;injection m with m;subst m;rw[Ht.out]at y;injection y with y;subst y;rw[a0.out,Ln];exact cy.out.only ak (by omega)
        ·rw[Lx (by omega)]at m;have:=(La.1 m).1;simp at this;omega
       ·rcases L2.1 x with x|x
        ·exact a9.out g x
        ·rw[Lv.1 x];exact gn
       ·rw[List.nodup_append];refine⟨de.out,by simp,λa ha b hb e=>?_⟩;rw[Lv.1 hb]at e;have:=cr.out a ha;omega
       ·rcases L2.1 x with x|x
        ·exact bk.out g x
        ·rw[Lv.1 x];exact c3.out
      have bi:=Lh aw;clear aw b0 ak;go_wp2_with fail
      go_roundw
      case rel=>exact⟨k+1,by go_num,by omega,bi⟩
      case measure=>simp[intOf];omega
    ·obtain rfl:k=p.V.length:=by omega
     have HK:=hK;clear bf hk hK;go_wp2
     go_ret
     exact Aip bj.out cd.out Hf.out cf ef ee dc.out di B3.out P3.out dd.out bc.out dg.out ea.out HK.out
end Go.Proofs.YtkoikjnlpifbjaaGreat
