/- Lemmas for RunnerKillsP. -/
import Derived.Test.YtkoikjnlpifbjaaGreatZk1
import Derived.Test.YtkoikjnlpifbjaaGreatZk8
import Derived.Test.YtkoikjnlpifbjaaGreatZk9
import Derived.Test.YtkoikjnlpifbjaaGreatZk5
import Derived.Deep.RegionHeld3
import Derived.Sort.LoopGhostIn
set_option linter.unusedVariables false
set_option linter.unusedSimpArgs false
set_option maxRecDepth 100000
set_option maxHeartbeats 16000000
namespace Go.Proofs.YtkoikjnlpifbjaaGreat
open Go.RowKit Go.Deep
attribute [local go_sem] Oper.semAt_some
structure KpX (X:Nat->Prop)(A B:World):Prop where
 block:∀k o,¬X k->A.heap[k]? =some o->B.heap[k]? =some o
 size:A.heap.size<=B.heap.size
theorem KpX.trans{X:Nat->Prop}{A B C:World}(h:KpX X A B)(k:KpX X B C):KpX X A C:=⟨λi o hx ho=>k.block i o hx (h.block i o hx ho),Ld h.size k.size⟩
theorem KpX.refl (X:Nat->Prop)(A:World):KpX X A A:=⟨λ_ _ _ h=>h,Nat.le_refl _⟩
theorem KpX.of_below{X:Nat->Prop}{A B:World}(h:Below A.heap.size A B):KpX X A B:=⟨λk o _ ho=>by rw[h.block k (Lr.1 ho).1];exact ho,h.size⟩
theorem KpX.more{X Y:Nat->Prop}{A B:World}(h:KpX X A B)(hs:∀k,X k->Y k):KpX Y A B:=⟨λk o hx ho=>h.block k o (λhk=>hx (hs k hk)) ho,h.size⟩
theorem KpX.row{X:Nat->Prop}{A B:World}(h:KpX X A B){g:Nat}{t:TypeId}{cs:Array Value}(hr:Row A g t cs)(hx:¬X g):Row B g t cs:=h.block g _ hx hr
theorem KpX.keeps{X:Nat->Prop}{A B:World}(h:KpX X A B){b:Nat}(hb:∀k,X k->k<b):KeepsFrom b A B:=⟨h.size,λk o hk ho _=>h.block k o (λhx=>by have:=hb k hx;omega) ho⟩
theorem KpX.rd{X:Nat->Prop}{A B:World}(h:KpX X A B){ad:Option Addr}{xs:List Value}(hr:Rd A ad xs)(hx:xs≠[]->∀a,ad=some a->¬X a.block):Rd B ad xs:=λj u hj=>by
 obtain⟨a,e,k⟩:=hr j u hj;have g:xs≠[]:=λe=>by rw[e]at hj;simp at hj
 have d:=World.block_lt_of_cell? _ _ k;have c:(a.add j).block=a.block:=JG a j;rw[c]at d;have i:A.heap[a.block]? =some A.heap[a.block]:=NE d;have l:=h.block _ _ (hx g a e) i;exact⟨a,e,(World.cell?_of_block (by rw[c];exact l.trans i.symm)).trans k⟩
structure PtX where
 to:Nat
 A:Option Addr
 cap:Nat
 l:List Int
def PtX.f (x:PtX):Nat×List Int:=(x.to,x.l)
def PtX.enc (x:PtX):Array Value:=#[.int .i64 (x.to:Int),.slice x.A x.l.length x.cap]
structure PtX.ok (x:PtX)(W:World):Prop where
 rd:Rd W x.A (Qi x.l)
 nil:x.A=none->x.l=[]
 len:x.l.length<=2000
theorem PtX.ok.go{x:PtX}{W W':World}(h:x.ok W)(b:Below W.heap.size W W'):x.ok W':=⟨h.rd.go b,h.nil,h.len⟩
def PxP (lo:Nat)(full:List (Nat×List Int))(pre:List PtX)(x:PtX)(W:World):Prop:=(x.ok W/\∀ad,x.A=some ad->lo<=ad.block)/\∃rest,pre.map PtX.f++x.f::rest=full
def AkO (lo:Nat)(l:List Nd)(X:Nat->Prop)(ba bo bl:Nat)(own:List Int)(q:Nat)(t:Tr)(w:World):Prop:=
 Ej Tryz.prog 209 #[.pointer (some ⟨ba,0,none⟩),.pointer (some ⟨bo,0,none⟩),.pointer (some ⟨bl,0,none⟩)] PtX.enc (λ_=>False) (λlb=>KpX (λi=>X i\/i=lb)) (PxP lo (Q5 own q t)) (λxs=>xs.map PtX.f=Q5 own q t) (λ_=>True) t.size True w
structure PathsC (lo:Nat)(A:Option Addr)(cap:Nat)(l:List Nd)(X:Nat->Prop)(ba bo bl:Nat)(oa:Option Addr)(oc:Nat)(own:List Int)(q:Nat)(w:World):Prop where
 hr:Rd w A (l.flatMap Nd.cells)
 hA:l.flatMap Nd.cells≠[]->∀ad,A=some ad->¬X ad.block
 rl:Row w bl 23 #[.slice A l.length cap]
 ra:Row w ba 3 #[.int .i64 (q:Int)]
 ro:Row w bo 22 #[.slice oa own.length oc]
 xl:¬X bl
 xa:¬X ba
 xo:¬X bo
 ho:Rd w oa (Qi own)
 hoX:Qi own≠[]->∀ad,oa=some ad->¬X ad.block
 hon:oa=none->own=[]
 hX:∀k,X k->k<w.heap.size
 hlo:∀ad,oa=some ad->lo<=ad.block
 hls:lo<=w.heap.size
theorem PathsC.kx{lo:Nat}{A:Option Addr}{cap:Nat}{l:List Nd}{X:Nat->Prop}{ba bo bl:Nat}{oa:Option Addr}{oc:Nat}{own:List Int}{q:Nat}{w w':World}(h:PathsC lo A cap l X ba bo bl oa oc own q w)(k:KpX X w w'):PathsC lo A cap l X ba bo bl oa oc own q w':=
 ⟨k.rd h.hr h.hA,h.hA,k.row h.rl h.xl,k.row h.ra h.xa,k.row h.ro h.xo,h.xl,h.xa,h.xo,k.rd h.ho h.hoX,h.hoX,h.hon,λi hi=>Lg (h.hX i hi) k.size,h.hlo,Ld h.hls k.size⟩
theorem KY{W:World}{A:Option Addr}{xs:List Value}(h:Rd W A xs)(hne:xs≠[]){ad:Addr}(e:A=some ad):ad.block<W.heap.size:=by
 cases xs with
 |nil=>exact absurd rfl hne
 |cons u xs=>
  obtain⟨a,c,d⟩:=h 0 u rfl;have:=World.block_lt_of_cell? _ _ d;rw[JG]at this;rw[e]at c;injection c with c;rw[c];exact this
theorem PathsC.add{lo:Nat}{A:Option Addr}{cap:Nat}{l:List Nd}{X:Nat->Prop}{ba bo bl:Nat}{oa:Option Addr}{oc:Nat}{own:List Int}{q:Nat}{w W:World}{lb:Nat}(h:PathsC lo A cap l X ba bo bl oa oc own q w)(b:Below w.heap.size w W)(h1:w.heap.size<=lb)(h2:lb<W.heap.size):PathsC lo A cap l (λi=>X i\/i=lb) ba bo bl oa oc own q W:=by
 have g:∀k,k<w.heap.size->¬X k->¬(X k\/k=lb):=λk d m h=>by
  rcases h with h|h
  ·exact m h
  ·omega
 exact⟨h.hr.go b,λc j e=>g _ (KY h.hr c e) (h.hA c j e),h.rl.below b h.rl.lt,h.ra.below b h.ra.lt,h.ro.below b h.ro.lt,g _ h.rl.lt h.xl,g _ h.ra.lt h.xa,g _ h.ro.lt h.xo,h.ho.go b,λc j e=>g _ (KY h.ho c e) (h.hoX c j e),h.hon,λk d=>by
  rcases d with d|d
  ·exact Lg (h.hX k d) b.size
  ·omega,h.hlo,Ld h.hls b.size⟩
def AjD (D:Nat):Deferred:={ target:=.collected D,args:=#[] }
theorem Xz{F:Fence}{n:Nat}{P:Program}{fn:Func}{tmps:Array Value}{R:Ending->World->Prop}(Jp:World->Prop)(base:Nat)(hput:∀(W:World) (D:Nat),base<=D->W.heap[D]? =some (.deferred (some []))->Jp W->Jp (W.putObj D (.deferred none)))(hend:∀W,Jp W->LeavesInM F n P fn tmps R [] .returning W):
 ∀(Ds:List Nat) (w:World),Ds.Nodup->(∀D∈Ds,base<=D/\w.heap[D]? =some (.deferred (some [])))->Jp w->LeavesInM F n P fn tmps R (Ds.map AjD) .returning w
 |[],w,_,_,h=>hend w h
 |D::Ds,w,hn,hD,h=>by
  obtain⟨h1,h2⟩:=hD D (by simp)
  rw[NH]at hn
  refine⟨by simp,.inl ⟨D,_,rfl,run_takeDeferred h2,Xz Jp base hput hend Ds _ hn.2 (λE hE=>?_) (hput w D h1 h2 h)⟩⟩
  obtain⟨h3,h4⟩:=hD E (by simp[hE])
  exact⟨h3,by rw[World.putObj_heap_other (λe=>hn.1 (by rw[<-e];exact hE))];exact h4⟩
theorem Tr.kid_lt{ks:List Tr}{j:Nat}{k:Tr}(h:ks[j]? =some k){x:Nd}:k.size<(Tr.node x ks).size:=by
 have e:=UE (Lf h);have c:=Tr.size_eq (Tr.node x ks);have d:(Tr.node x ks).kids=ks:=rfl;rw[d]at c;omega
theorem KpX.grown{X:Nat->Prop}{w A B:World}(h:KpX X w A){row:Option Nat}(hg:A.grownBy B row)(hr:∀r,row=some r->w.heap.size<=r):KpX X w B:=
 ⟨λk o hx ho=>by
  have h1:=h.block k o hx ho
  have hk:=(Lr.1 ho).1
  exact(hg.block k (Lr.1 h1).1 (λe=>by have:=hr k e.symm;omega)).trans h1,Ld h.size hg.size⟩
theorem Rd.grown{A B:World}{ad:Option Addr}{xs:List Value}(h:Rd A ad xs){row:Option Nat}(hg:A.grownBy B row)(hr:∀r,row=some r->∃o:Obj,A.heap[r]? =some o/\o.isCells=false):Rd B ad xs:=λj u hj=>by
 obtain⟨a,e,c⟩:=h j u hj;have k:(A.cell? (a.add j)).isSome=true:=by rw[c];rfl
 refine⟨a,e,?_⟩
 have i:row≠some (a.add j).block:=λe=>by
  obtain⟨o,d,g⟩:=hr _ e;unfold World.cell? at c;split at c
  ·rename_i m t n l;rw[l]at d;injection d with d;subst d;cases g
  ·cases c
 exact(World.cell?_of_block (hg.block _ (World.block_lt_of_cell? _ _ c) (Ne.symm i))).trans c
theorem Abx{Q:Exit->Act->World->Prop}{a:Act}{w:World}(h:Q .normal a w):NoPanic Q .normal a w:=h
theorem UC:∀ks:List Tr,ks.length<=(QM ks).length
 |[]=>by simp
 | .node x k::ks=>by
  have:=UC ks
  rw[QM,Le,Tr.flat,Lc,Lc];omega
structure PathsFn (A:Option Addr)(cap:Nat)(l:List Nd)(q:Nat)(oa:Option Addr)(oc:Nat)(own:List Int)(w w':World)(e:Ending):Prop where
 ex:∃bl ba bo,e=.returned (.func (.func 209) #[] #[.pointer (some ⟨ba,0,none⟩),.pointer (some ⟨bo,0,none⟩),.pointer (some ⟨bl,0,none⟩)])/\Row w' bl 23 #[.slice A l.length cap]/\Row w' ba 3 #[.int .i64 (q:Int)]/\Row w' bo 22 #[.slice oa own.length oc]/\w.heap.size<=bl/\w.heap.size<=ba/\w.heap.size<=bo/\Below w.heap.size w w'
theorem YH (A:Option Addr)(cap:Nat)(l:List Nd)(q:Nat)(oa:Option Addr)(oc:Nat)(own:List Int)(w:World):
 Calls Tryz.prog 191 #[.slice A l.length cap,.int .i64 (q:Int),.slice oa own.length oc] w λe w'=>PathsFn A cap l q oa oc own w w' e:=by
 go_enter Tryz.func191,Tryz.ntmps191
 go_wp2_with (refine Qq _ _ rfl ?_)
 refine Stop.to ?_;refine Qe rfl 23 _ rfl #[.slice A l.length cap] rfl ?_;intro G y o c n;go_wp2_with (refine Qq _ _ rfl ?_)
 refine Stop.to ?_;refine Qe rfl 3 _ rfl #[.int .i64 (q:Int)] rfl ?_;intro J z j k d;go_wp2_with (refine Qq _ _ rfl ?_)
 refine Stop.to ?_;refine Qe rfl 22 _ rfl #[.slice oa own.length oc] rfl ?_;intro K Kw m p g;have v:=(c.below d (Lg c.lt j)).below g (by have:=c.lt;have:=d.size;omega);have x:=k.below g (Lg k.lt m);have h:=(Below.refl w.heap.size w).trans (n.mono o);have i:=h.trans ((d.mono j).mono h.size);have s:=i.trans ((g.mono m).mono i.size);have t:w.heap.size<=J:=Ld h.size j;have u:w.heap.size<=K:=Ld i.size m;clear c k n d g h i;go_wp2
 go_ret
 exact⟨G,J,K,rfl,v,x,p,o,t,u,s⟩
theorem XD{own:List Int}{r:Nat}{j:Nat}{ks:List Tr}{k:Tr}(hk:ks[j]? =some k):ZF own r (j:Int) (ks.drop j)=Q5 (own++[(j:Int)]) r k++ZF own (r+k.size) ((j+1:Nat):Int) (ks.drop (j+1)):=by
 obtain⟨c,rfl⟩:=La.1 hk;rw[LH c,ZF];congr 1
theorem Afx{q r j:Nat}{ks:List Tr}{k:Tr}(hk:ks[j]? =some k)(h:Q1 r (ks.drop j)=(Q1 (q+1) ks).drop j):(Q1 (q+1) ks)[j]? =some r/\Q1 (r+k.size) (ks.drop (j+1))=(Q1 (q+1) ks).drop (j+1):=by
 obtain⟨c,rfl⟩:=La.1 hk;rw[LH c,Q1]at h;constructor
 ·have:=congrArg (λl=>l[0]?) h;simp at this;exact this.symm
 ·have:=congrArg (λl=>l.drop 1) h;simp only[Lz,LA,Nj]at this;exact this
theorem AfY:(Tryz.prog.info? 3).map (λi=>(i.zero,i.size))=some (some (.int .i64 0),1):=by kernel_rfl
theorem Afn (A:Option Addr)(cap:Nat)(l:List Nd)(hl:l.length<=1000):∀(n:Nat) (t:Tr) (q:Nat) (own:List Int),t.size<=n->own.length+t.size<=2000->At l q t->∀(lo:Nat) (X:Nat->Prop) (ba bo bl:Nat) (oa:Option Addr) (oc:Nat) (w:World),PathsC lo A cap l X ba bo bl oa oc own q w->AkO lo l X ba bo bl own q t w:=by
 intro n
 induction n with
 |zero=>intro t q own hn _ cq;have:=cq.le;cases t;simp[Tr.size,Tr.flat]at hn
 |succ n ih=>
 intro t q own hn bm cq lo X ba bo bl oa oc w hC;intro lb J Jx W de bn _ hJ dp hY h0;have dk:=Lh ih;have Hl:=Lh hl;have Hn:=Lh hn;have ay:=Lh bm;have dj:=Lh cq;have du:Below w.heap.size w W:=⟨bn.os,bn.tape,bn.output,bn.size,λk hk=>bn.block k hk (by simp)⟩;have c8:=hC.add du de.1 de.2;clear hC de du bn w;replace hY:∀d x W1,J d W1->PxP lo (Q5 own q t) d x W1->d.length<t.size->YieldAt Fence.wide 0 Tryz.prog lb (PtX.enc x) W1 λe W'=>(e=.returned (.bool true)/\J (d++[x]) W'/\KpX (λi=>X i\/i=lb) W1 W')\/(e=.returned (.bool false)/\Jx (d++[x]) W'/\KpX (λi=>X i\/i=lb) W1 W'):=hY;generalize (λi=>X i\/i=lb)=X1 at c8 hY;clear X;obtain⟨X,rfl⟩:∃X,X=X1:=⟨_,rfl⟩;have HC:=Lh c8;have HJ:=Lh hJ;have cp:=Lh dp;have HY:=Lh hY;clear ih hl hn bm cq c8 hJ dp hY;refine callsIn_of_wp_marks Tryz.func209 rfl trivial ?_ rfl;simp only[Tryz.ntmps209,Lk,Lc,Lo,Nat.reduceAdd,Nat.reduceSub,Li,Lj,Lp,L5,Lm,Ll];obtain⟨Y,da⟩:∃Y,Y=W.heap.size:=⟨_,rfl⟩;obtain⟨W1,c9⟩:∃W1,W1=W.alloc (.cells #[.func (.yield lb) #[] #[]] 295):=⟨_,rfl⟩;have rY:Row W1 Y 295 #[.func (.yield lb) #[] #[]]:=by rw[c9,da];exact Row.new _ _ _
 have b1:Below W.heap.size W W1:=by rw[c9];exact(Below.refl _ _).alloc (Nat.le_refl _) _
 have dt:¬X Y:=λh=>by have:=HC.out.hX Y h;omega
 have h1:J [] W1:=QI HJ.out h0 b1;have a8:=Lh (HC.out.kx (KpX.of_below b1));have cA:=a8.out.ra.cellv (i:=0) (v:=.int .i64 (q:Int)) rfl;have cO:=a8.out.ro.cellv (i:=0) (v:=.slice oa own.length oc) rfl;have cY:=rY.cellv (i:=0) (v:=.func (.yield lb) #[] #[]) rfl
 have dw:PxP lo (Q5 own q t) [] ⟨q,oa,oc,own⟩ W1:=by
  refine⟨⟨⟨a8.out.ho,a8.out.hon,by have:=ay.out;simp only;omega⟩,a8.out.hlo⟩,?_⟩;cases t with
  |node x ks=>exact⟨ZF own (q+1) 0 ks,by rw[Q5];rfl⟩
 obtain⟨fn,tmps,assign,body,hy,hR⟩:=HY.out _ ⟨q,oa,oc,own⟩ _ h1 dw (by cases t;simp[Tr.size,Tr.flat]);have bp:(Instr.yield lb #[.int .i64 (q:Int),.slice oa own.length oc]).run Tryz.prog W1=.ok (.round lb fn tmps assign body) W1:=hy;have HR:=Lh hR;have d3:=Lh b1;have bi:=Lh dt;have d5:=Lh da;clear hR hy h0 h1 dw b1 dt;subst da;subst c9;gi_wp2_with fail
 refine⟨rfl,HR.out.mono ?_⟩;rintro e W2 (⟨rfl,hj,hk⟩|⟨rfl,ed,hk⟩);rotate_left
 ·clear cA cO cY bp HR hk;gi_wp2;exact⟨_,results_none rfl _ _ _,⟨_,rfl⟩,.inr ⟨_,trivial,ed⟩⟩
 have bf:=Lh (a8.out.kx hk);have cs:=hk.row rY bi.out;have d6:=bf.out.ra.cellv (i:=0) (v:=.int .i64 (q:Int)) rfl;have d8:=bf.out.rl.cellv (i:=0) (v:=.slice A l.length cap) rfl;have ep:W.heap.size<W2.heap.size:=cs.lt;clear cA cO cY bp HR hk rY a8 d3 d5;gi_wp2_with fail
 refine⟨trivial,rfl,(callsIn_wide.2 (UF A cap l (q:Int) W2 bf.out.hr Hl.out)).mono ?_⟩;rintro e w2 ⟨v,rfl,cw,b2⟩;obtain⟨KA,kc,rfl,ds,ej,ek,dr⟩:=Y0 cw;obtain⟨rt,ks,rfl⟩:∃rt ks,t=.node rt ks:=by cases t;exact⟨_,_,rfl⟩
 have dc:kidsZ l (q:Int)=KX (Q1 (q+1) ks):=dj.out.kidsZ;have dy:(Q1 (q+1) ks).length=ks.length:=Ju _ _;obtain⟨N,hN⟩:∃N,N=ks.length:=⟨_,rfl⟩;have dv:(kidsZ l (q:Int)).length=N:=by rw[dc,Abv,dy,hN]
 have eh:N<=2000:=by
  have h1:ks.length<=(Tr.node rt ks).size:=by have:=UC ks;rw[Tr.size,Tr.flat,Lc];omega
  have:=ay.out;omega
 have h3:=QI HJ.out hj b2;have dz:=Lh (bf.out.kx (KpX.of_below b2));have eg:=cs.below b2 cs.lt;have d1:=Lh ds;have d0:=Lh dr;have d4:=Lh dc;have HN:=Lh hN;have en:W2.heap.size<=w2.heap.size:=b2.size;have d2:Hid (Qi (kidsZ l (q:Int))≠[]->∀ad,KA=some ad->¬X ad.block):=λ_ ad e hx=>by have:=d0.out ad e;have:=bf.out.hX _ hx;omega
 clear cw ds dr dc hN dy b2 hj d6 d8 cs bf;rw[dv];clear dv;gi_wp2_with fail
 refine wpIn_loop_ghost_k (λm a wr=>∃(j:Nat) (done:List PtX) (r:Nat) (Ds:List Nat),m=N-j/\j<=N/\Hid (done.map PtX.f++ZF own r (j:Int) (ks.drop j)=Q5 own q (.node rt ks))/\Hid (Q1 r (ks.drop j)=(Q1 (q+1) ks).drop j)/\Hid (KpX X w2 wr)/\J done wr/\Hid (Ds.Nodup/\∀D∈Ds,W.heap.size<=D/\wr.heap[D]? =some (.deferred (some [])))/\∃u5 u6 u7 u8 bq br bs bt bu bv bw bx bz b0 b3 b4 b5 b7 a2 a3 a4 a5 a6 a7,a={ tmps:=#[.func (.yield lb) #[] #[],.pointer (some ⟨ba,0,none⟩),.pointer (some ⟨bo,0,none⟩),.pointer (some ⟨bl,0,none⟩),.pointer (some ⟨W.heap.size,0,none⟩),u5,u6,u7,u8,.func (.yield lb) #[] #[],.int .i64 (q:Int),.slice oa own.length oc,.bool true,.bool false,.slice A l.length cap,.int .i64 (q:Int),.slice KA N kc,.int .i64 (N:Int),.int .i64 (j:Int),bq,br,bs,bt,bu,bv,bw,bx,bz,b0,b3,b4,b5,b7,a2,a3,a4,a5,a6,a7],defers:=Ds.map AjD }) N ⟨0,_,q+1,[],rfl,Nat.zero_le _,by show _=_;rw[Q5];rfl,by show _=_;rfl,Lh (KpX.refl _ _),h3,⟨List.nodup_nil,λD h=>by simp at h⟩,_,_,_,_,_,_,_,_,_,_,_,_,_,_,_,_,_,_,_,_,_,_,_,_,rfl⟩ ?_
 ·clear h3;rintro m a wr ⟨j,done,r,Ds,rfl,el,Hd,Hs,Hk,hj,bh,u5,u6,u7,u8,bq,br,bs,bt,bu,bv,bw,bx,bz,b0,b3,b4,b5,b7,a2,a3,a4,a5,a6,a7,rfl⟩ JJ KK dn dq;have dh:=Lh dn;have di:=Lh dq;clear dn dq;by_cases em:j<N;rotate_left
  ·obtain rfl:j=N:=by omega
   gi_wp2_with fail
   have bd:done.map PtX.f=Q5 own q (.node rt ks):=by
    have:=Hd.out;rw[List.drop_of_length_le (by rw[HN.out];exact Nat.le_refl _),ZF,LR]at this;exact this
   exact Xz (J done) W.heap.size (λV' E h1 s h3=>HJ.out _ _ _ (some E) h3 (grownBy_putObj' _ _ _) (λr e=>by cases e;exact .inr ⟨h1,_,s,rfl⟩)) (λV' h=>⟨_,results_none rfl _ _ _,⟨_,rfl⟩,.inl ⟨_,bd,h⟩⟩) Ds wr bh.out.1 bh.out.2 hj
  obtain⟨k,cr⟩:∃k,ks[j]? =some k:=⟨_,Lb (by have:=HN.out;omega)⟩;obtain⟨df,dx⟩:=Afx cr Hs.out;have cv:=dj.out.kids.spot j r k df cr;have bg:=Lh (dz.out.kx Hk.out);obtain⟨ka,ee,ef⟩:=Zg (Hk.out.rd d1.out d2.out) (k:=j) (x:=(r:Int)) (by rw[d4.out];simp[KX,df]);have ct:=Hk.out.row eg bi.out;have bj:=Lh cr;have dm:=Lh dx;have cu:=Lh cv;have ei:(j:Int)<(N:Int):=by omega
  have eo:w2.heap.size<=wr.heap.size:=Hk.out.size;have d7:=bg.out.ra.cellv (i:=0) (v:=.int .i64 (q:Int)) rfl;have d9:=bg.out.rl.cellv (i:=0) (v:=.slice A l.length cap) rfl;have ea:=bg.out.ro.cellv (i:=0) (v:=.slice oa own.length oc) rfl;clear cr df dx cv;subst ee;gi_wp2_with fail
  refine wpIn_wide.2 ?_;refine wp_region_noPanic ?_;refine wp_region_held (S:=λW=>PathsC lo A cap l X ba bo bl oa oc own q W) (by kernel_rfl) ?_;simp only[Lk,Lc,Lo,Nat.reduceAdd,Li,Lj,Lp,Lm,Ll];show wpAnyH _ _ _ _ _ _ _ _ wr.drew;have hS:PathsC lo A cap l X ba bo bl oa oc own q wr.drew:=bg.out.kx (KpX.of_below (St.drew (S:=λW=>Below wr.heap.size wr W) (Below.refl _ _)));have ab:Below wr.heap.size wr wr.drew:=St.drew (S:=λW=>Below wr.heap.size wr W) (Below.refl _ _);generalize wr.drew=w5 at hS ab|-;clear d7 d9 ea ef;(refine tkH 0 (.slice A l.length cap) rfl (Qd rfl (λW hW=>by((have h:=hW.rl.cellv (i:=0) (v:=.slice A l.length cap) rfl;go_simp)))) ?_;simp only[Act.put,Qa,Qb,Qc]);(refine tkH 1 (.int .i64 (r:Int)) rfl (Qd rfl (λW hW=>by(go_simp))) ?_;simp only[Act.put,Qa,Qb,Qc]);(refine tkH 2 (.slice oa own.length oc) rfl (Qd rfl (λW hW=>by((have h:=hW.ro.cellv (i:=0) (v:=.slice oa own.length oc) rfl;go_simp)))) ?_;simp only[Act.put,Qa,Qb,Qc]);(refine tkH 4 (.int .i64 (j:Int)) rfl (Qd rfl (λW hW=>by(go_simp))) ?_;simp only[Act.put,Qa,Qb,Qc]);refine wpAnyH_all (rs:=[3,5]) (by kernel_rfl) (by simp) (λi hi=>?_);have ec:i=3\/i=5:=by simpa using hi
  clear hi;rcases ec with rfl|rfl
  ·refine Qf rfl rfl (λK2 g=>?_);refine Qo 95 #[.slice oa own.length oc] (w1:=w5) (by go_simp) ((Va oa oc own w5 hS.ho hS.hon (by have:=ay.out;omega)).mono ?_);rintro e w6 ⟨v6,rfl,bc,b6⟩;refine⟨_,rfl,?_⟩;refine g _ _ ?_;clear g K2;simp only[Act.put,Qa,Qb,Qc];have bb:=hS.kx (KpX.of_below b6);refine⟨bb,?_⟩;(refine wpAnyH_all (rs:=[5]) (by kernel_rfl) (by simp) (λi hi=>?_);obtain rfl:i=5:=by simpa using hi);refine Qf rfl rfl (λK2 g=>?_);refine Qn (.slice (some ⟨w6.heap.size,0,none⟩) 1 1) (Q0 [(0,.tmp 27)] rfl (Z8 (cells:=#[.int .i64 (j:Int)]) Tryz.underlying22 AfY (by decide) (by decide) (by kernel_rfl) w6)) ?_;have rg:=Jl w6 [.int .i64 (j:Int)] 3;have bk:=(Below.refl w6.heap.size w6).alloc (Nat.le_refl _) (.cells #[.int .i64 (j:Int)] 3);have z:=QB bc bk;refine g _ _ ?_;clear g K2;simp only[Act.put,Qa,Qb,Qc];have ah:Below w5.heap.size w5 (w6.alloc (.cells #[.int .i64 (j:Int)] 3)):=b6.trans (bk.mono b6.size);generalize w6.alloc (.cells #[.int .i64 (j:Int)] 3)=w7 at rg ah z|-;clear bk;obtain⟨gg,cc⟩:∃gg,gg=w6.heap.size:=⟨_,rfl⟩;rw[<-cc]at rg|-;clear cc;refine⟨hS.kx (KpX.of_below ah),?_⟩;have bm:=ay.out;obtain⟨v8,w8,ap,ac,cd,_⟩:=ZA (P:=Tryz.prog) 22 3 (.int .i64 0) 1 8 Tryz.underlying22 Jc rfl (by decide) (by decide) z ah.size rg (m:=1) (cap:=1) rfl (Jn [(j:Int)]) (by simp) (by omega);have af:=QL ah z cd ah.size (Nat.le_refl _);rw[show Qi own++[Value.int .i64 (j:Int)]=Qi (own++[(j:Int)]) by simp[Qi]]at ac;obtain⟨aq,ar,rfl,ch,_,a1,an⟩:=Y0 ac;have ce:own.length+1=(own++[(j:Int)]).length:=by simp
   rw[ce]at ap;have az:=Lh ap;clear ce bm ap z ac cd rg;(refine wpAnyH_all (rs:=[6]) (by kernel_rfl) (by simp) (λi hi=>?_);obtain rfl:i=6:=by simpa using hi);refine Qf rfl rfl (λK2 g=>?_);refine Qn _ (QE rfl az.out) ?_;refine g _ _ ?_;clear g K2 az;simp only[Act.put,Qa,Qb,Qc];have ag:=hS.kx (KpX.of_below af);refine⟨ag,?_⟩;(refine wpAnyH_all (rs:=[7]) (by kernel_rfl) (by simp) (λi hi=>?_);obtain rfl:i=7:=by simpa using hi);refine Qf rfl rfl (λK2 g=>?_);refine Qo 191 #[.slice A l.length cap,.int .i64 (r:Int),.slice aq (own++[(j:Int)]).length ar] (w1:=w8) (by go_simp) ((YH A cap l r aq ar (own++[(j:Int)]) w8).mono ?_);rintro e y ⟨av,au,aw,rfl,cn,cl,co,c6,c5,c7,aj⟩;refine⟨_,rfl,?_⟩;refine g _ _ ?_;clear g K2;simp only[Act.put,Qa,Qb,Qc];have aa:=ag.kx (KpX.of_below aj);refine⟨aa,?_⟩;refine wpAnyH_done (by kernel_rfl) ?_ _;have ax:KpX X wr y:=KpX.of_below (ab.trans (af.mono ab.size |>.trans (aj.mono (by have:=af.size;have:=ab.size;omega))));have cj:=ax.row ct bi.out;have h9:J done y:=QI HJ.out hj (ab.trans ((af.mono ab.size).trans (aj.mono (by have:=af.size;have:=ab.size;omega))));clear ct hj;have ca:PathsC lo A cap l X au aw av aq ar (own++[(j:Int)]) r y:=⟨aa.hr,aa.hA,cn,cl,co,λh=>by have:=ag.hX _ h;omega,λh=>by have:=ag.hX _ h;omega,λh=>by have:=ag.hX _ h;omega,ch.go aj,λ_ ad e h=>by have:=an ad e;have:=hS.hX _ h;omega,λe=>by have:=a1 e;omega,aa.hX,λad e=>by have:=an ad e;have:=hS.hls;omega,aa.hls⟩;have cb:∀i,X i->i<y.heap.size:=aa.hX;have cx:=Lh ca;have c1:=Lh ax;have b8:=Lh cb
   have ae:Hid (Ds.Nodup/\∀D∈Ds,W.heap.size<=D/\D<y.heap.size/\y.heap[D]? =some (.deferred (some []))):=⟨bh.out.1,λD hD=>by
    obtain⟨e1,e2⟩:=bh.out.2 D hD
    have e3:=ax.block D _ (λhx=>by have:=HC.out.hX D hx;omega) e2
    exact⟨e1,(Lr.1 e3).1,e3⟩⟩
   clear hS bb ag aa ab af aj ah cn cl co c6 c5 c7 ch a1 an ca ax cb bg;refine Abx ?_;gi_wp2_with fail
   have db:=Tr.kid_lt bj.out (x:=rt);have c0:=Lh (dk.out k r (own++[(j:Int)]) (by have:=Hn.out;omega) (by have:=ay.out;simp;omega) cu.out.1 lo X au aw av aq ar y cx.out);clear db;have s9:W.heap.size<y.heap.size:=cj.lt;have cy:Hid (J done y/\KpX X y y):=⟨h9,KpX.refl _ _⟩;clear h9
   refine Uo (gf:=209) (lb:=#[.pointer (some ⟨au,0,none⟩),.pointer (some ⟨aw,0,none⟩),.pointer (some ⟨av,0,none⟩)]) rfl (enters_of Tryz.func209 (by kernel_rfl) rfl) c0.out (λr h=>h.elim)
    (λh k=>h.trans k) (λV o o' ho hc=>⟨λi p hx hp=>by rw[World.putObj_heap_other (λe=>hx (.inr e))];exact hp,by simp⟩) (World.grownBy.refl _ _) (λ_=>rfl)
    (λd V=>J (done++d) V/\KpX X y V) (λc d V=>c=.ret/\Jx (done++d) V/\KpX X y V) (.inl trivial) ?hI ?hIx (by rw[LR];exact cy.out)
    (λd x a' V=>a'={ tmps:=#[.func (.yield lb) #[] #[],.pointer (some ⟨ba,0,none⟩),.pointer (some ⟨bo,0,none⟩),.pointer (some ⟨bl,0,none⟩),.pointer (some ⟨W.heap.size,0,none⟩),.int .i64 (j:Int),.int .i64 (r:Int),.int .i64 (x.to:Int),.slice x.A x.l.length x.cap,.func (.yield lb) #[] #[],.int .i64 (q:Int),.slice oa own.length oc,.bool true,.bool false,.slice A l.length cap,.int .i64 (q:Int),.slice (some ka) N kc,.int .i64 (N:Int),.int .i64 (j:Int),.bool true,.int .i64 (j:Int),.pointer (some (ka.add j)),.int .i64 (r:Int),.slice A l.length cap,.int .i64 (r:Int),.slice oa own.length oc,v6,.int .i64 (j:Int),.slice (some ⟨gg,0,none⟩) 1 1,.slice aq (own.length+1) ar,.func (.func 209) #[] #[.pointer (some ⟨au,0,none⟩),.pointer (some ⟨aw,0,none⟩),.pointer (some ⟨av,0,none⟩)],.int .i64 (x.to:Int),.slice x.A x.l.length x.cap,a2,a3,a4,a5,a6,a7],defers:=[] }/\PxP lo (Q5 (own++[(j:Int)]) r k) d x V) ?hAx ?assign ?body ?done ?stop
   case hI=>
    rintro d V V' row ⟨h1,s⟩ hg hr;refine⟨HJ.out _ _ _ row h1 hg (λi e=>.inr ?_),s.grown hg (λi e=>?_)⟩
    ·rcases hr i e with h|⟨h,o⟩
     ·exact h.elim
     ·exact⟨by omega,o⟩
    ·rcases hr i e with h|⟨h,o⟩
     ·exact h.elim
     ·exact h
   case hIx=>
    rintro c d V V' row ⟨h1,s,h3⟩ hg hr;refine⟨h1,cp.out _ _ _ row s hg (λi e=>.inr ?_),h3.grown hg (λi e=>?_)⟩
    ·rcases hr i e with h|⟨h,o⟩
     ·exact h.elim
     ·exact⟨by omega,o⟩
    ·rcases hr i e with h|⟨h,o⟩
     ·exact h.elim
     ·exact h
   case hAx=>
    rintro d x a' _ V V' row ⟨h1,⟨s,h4⟩,h3⟩ hg hr;refine⟨h1,⟨⟨s.rd.grown hg (λi e=>?_),s.nil,s.len⟩,h4⟩,h3⟩;rcases hr i e with h|⟨h,o⟩
    ·exact h.elim
    ·exact o
   case assign=>
    rintro l3 d x V K hI hP hK;have HK:=Lh hK;have HI:=Lh hI;have HP:=Lh hP;clear hK hI hP;unfold PtX.enc;gi_wp2_with fail
    exact HK.out _ _ (KeepsFrom.refl _ _) (KpX.refl _ _) HI.out ⟨rfl,HP.out⟩
   case body=>
    rintro l3 d x a' V dd _ ⟨h1,s⟩ ⟨rfl,hP⟩ cf;have ck:=s.row cj bi.out;have c3:=ck.cellv (i:=0) (v:=.func (.yield lb) #[] #[]) rfl;obtain⟨ci,cm,ao⟩:=hP;have ak:PxP lo (Q5 own q (.node rt ks)) (done++d) x V:=⟨ci,cm++ZF own (r+k.size) ((j+1:Nat):Int) (ks.drop (j+1)),by rw[<-Hd.out,XD bj.out, <-ao];simp⟩
    have am:(done++d).length<(Tr.node rt ks).size:=by
     obtain⟨_,dg,h3⟩:=ak;have h4:=congrArg List.length h3;rw[Jk]at h4;simp at h4;simp;omega
    obtain⟨c4,be,ai,a9,hy,hR⟩:=HY.out _ x _ h1 ak am;have bp:(Instr.yield lb #[.int .i64 (x.to:Int),.slice x.A x.l.length x.cap]).run Tryz.prog V=.ok (.round lb c4 be ai a9) V:=hy;have HR:=Lh hR;have H2:=Lh s;clear hy hR h1 s ci ao ak am cf ck dd;gi_wp2_with fail
    refine⟨rfl,HR.out.mono ?_⟩;clear bp HR c3;rintro e V2 (⟨rfl,al,u⟩|⟨rfl,al,u⟩)
    ·have HF:Hid (KeepsFrom y.heap.size V V2/\KpX (λi=>X i\/i=y.heap.size+1) V V2/\J (done++(d++[x])) V2/\KpX X y V2):=⟨u.keeps b8.out,u.more (λ_ h=>.inl h),by rw[<-Ly];exact al,H2.out.trans u⟩;clear al u;gi_wp2_with fail
     exact HF.out
    ·have HF:Hid (KeepsFrom y.heap.size V V2/\KpX (λi=>X i\/i=y.heap.size+1) V V2/\True/\Jx (done++(d++[x])) V2/\KpX X y V2):=⟨u.keeps b8.out,u.more (λ_ h=>.inl h),trivial,by rw[<-Ly];exact al,H2.out.trans u⟩;clear al u;gi_wp2_with fail
     exact⟨HF.out.1,HF.out.2.1,rfl,HF.out.2.2.2⟩
   case stop=>
    rintro D c d V hD _ ⟨rfl,s,h3⟩ hK;have cg:(D::Ds).Nodup:=NH.2 ⟨λh=>by have:=ae.out.2 D h;omega,ae.out.1⟩
    have a0:∀E∈D::Ds,W.heap.size<=E/\V.heap[E]? =some (.deferred (some [])):=λE hE=>by
     rcases Ls.1 hE with rfl|hE
     ·exact⟨by omega,hK⟩
     ·obtain⟨e1,e2,e3⟩:=ae.out.2 E hE;exact⟨e1,h3.block E _ (λhx=>by have:=HC.out.hX E hx;omega) e3⟩
    have c2:=Lh cg;have b9:=Lh a0;have H2:=Lh s;clear cg a0 s h3 hK hD;gi_wp2_with fail
    exact Xz (Jx (done++d)) W.heap.size (λV' E h1 s h3=>cp.out _ _ _ (some E) h3 (grownBy_putObj' _ _ _) (λr e=>by cases e;exact .inr ⟨h1,_,s,rfl⟩)) (λV' h=>⟨_,results_none rfl _ _ _,⟨_,rfl⟩,.inr ⟨_,trivial,h⟩⟩) (D::Ds) V c2.out b9.out H2.out
   case done=>
    rintro D xs V hD bd ⟨h1,s⟩ hK
    have HF:Hid (∀a',(∃u5 u6 u7 u8 bq br bs bt bu bv bw bx bz b0 b3 b4 b5 b7 a2 a3 a4 a5 a6 a7,a'={ tmps:=#[.func (.yield lb) #[] #[],.pointer (some ⟨ba,0,none⟩),.pointer (some ⟨bo,0,none⟩),.pointer (some ⟨bl,0,none⟩),.pointer (some ⟨W.heap.size,0,none⟩),u5,u6,u7,u8,.func (.yield lb) #[] #[],.int .i64 (q:Int),.slice oa own.length oc,.bool true,.bool false,.slice A l.length cap,.int .i64 (q:Int),.slice (some ka) N kc,.int .i64 (N:Int),.int .i64 ((j+1:Nat):Int),bq,br,bs,bt,bu,bv,bw,bx,bz,b0,b3,b4,b5,b7,a2,a3,a4,a5,a6,a7],defers:=(D::Ds).map AjD })->KK a' V):=λa' ha=>di.out _ _ (Handed.intro (N-(j+1)) (by omega) (dh.out _ _ _ ⟨j+1,done++xs,r+k.size,D::Ds,rfl,by omega,by
     show _=_
     rw[<-Hd.out,XD bj.out,LN,bd,Ly],dm,c1.out.trans s |> Hk.out.trans,h1,⟨NH.2 ⟨λh=>by have:=ae.out.2 D h;omega,ae.out.1⟩,λE hE=>by
     rcases Ls.1 hE with rfl|hE
     ·exact⟨by omega,hK⟩
     ·obtain⟨e1,e2,e3⟩:=ae.out.2 E hE
      exact⟨e1,s.block E _ (λhx=>by have:=HC.out.hX E hx;omega) e3⟩⟩,ha⟩))
    clear h1 s hK bd hD;have eb:(N:Int)<=2000:=by omega
    gi_wp2_with fail
    refine HF.out _ ?_
    repeat apply Exists.intro
    exact rfl
  ·refine Qf rfl rfl (λK2 g=>?_);refine Qn (.slice (some ⟨w5.heap.size,0,none⟩) 1 1) (Q0 [(0,.tmp 27)] rfl (Z8 (cells:=#[.int .i64 (j:Int)]) Tryz.underlying22 AfY (by decide) (by decide) (by kernel_rfl) w5)) ?_;have rg:=Jl w5 [.int .i64 (j:Int)] 3;have b6:=(Below.refl w5.heap.size w5).alloc (Nat.le_refl _) (.cells #[.int .i64 (j:Int)] 3);refine g _ _ ?_;clear g K2;simp only[Act.put,Qa,Qb,Qc];generalize w5.alloc (.cells #[.int .i64 (j:Int)] 3)=w6 at rg b6|-;obtain⟨gg,cc⟩:∃gg,gg=w5.heap.size:=⟨_,rfl⟩;rw[<-cc]at rg|-;clear cc;have bb:=hS.kx (KpX.of_below b6);refine⟨bb,?_⟩;(refine wpAnyH_all (rs:=[3]) (by kernel_rfl) (by simp) (λi hi=>?_);obtain rfl:i=3:=by simpa using hi);refine Qf rfl rfl (λK2 g=>?_);refine Qo 95 #[.slice oa own.length oc] (w1:=w6) (by go_simp) ((Va oa oc own w6 bb.ho bb.hon (by have:=ay.out;omega)).mono ?_);rintro e w7 ⟨v6,rfl,bc,bk⟩;refine⟨_,rfl,?_⟩;refine g _ _ ?_;clear g K2;simp only[Act.put,Qa,Qb,Qc];have z:=QR bc b6.size;replace rg:=rg.go bk;have ah:Below w5.heap.size w5 w7:=b6.trans (bk.mono (by have:=b6.size;omega));refine⟨hS.kx (KpX.of_below ah),?_⟩;have bm:=ay.out;obtain⟨v8,w8,ap,ac,cd,_⟩:=ZA (P:=Tryz.prog) 22 3 (.int .i64 0) 1 8 Tryz.underlying22 Jc rfl (by decide) (by decide) z ah.size rg (m:=1) (cap:=1) rfl (Jn [(j:Int)]) (by simp) (by omega);have af:=QL ah z cd ah.size (Nat.le_refl _);rw[show Qi own++[Value.int .i64 (j:Int)]=Qi (own++[(j:Int)]) by simp[Qi]]at ac;obtain⟨aq,ar,rfl,ch,_,a1,an⟩:=Y0 ac;have ce:own.length+1=(own++[(j:Int)]).length:=by simp
   rw[ce]at ap;have az:=Lh ap;clear ce bm ap z ac cd rg;(refine wpAnyH_all (rs:=[6]) (by kernel_rfl) (by simp) (λi hi=>?_);obtain rfl:i=6:=by simpa using hi);refine Qf rfl rfl (λK2 g=>?_);refine Qn _ (QE rfl az.out) ?_;refine g _ _ ?_;clear g K2 az;simp only[Act.put,Qa,Qb,Qc];have ag:=hS.kx (KpX.of_below af);refine⟨ag,?_⟩;(refine wpAnyH_all (rs:=[7]) (by kernel_rfl) (by simp) (λi hi=>?_);obtain rfl:i=7:=by simpa using hi);refine Qf rfl rfl (λK2 g=>?_);refine Qo 191 #[.slice A l.length cap,.int .i64 (r:Int),.slice aq (own++[(j:Int)]).length ar] (w1:=w8) (by go_simp) ((YH A cap l r aq ar (own++[(j:Int)]) w8).mono ?_);rintro e y ⟨av,au,aw,rfl,cn,cl,co,c6,c5,c7,aj⟩;refine⟨_,rfl,?_⟩;refine g _ _ ?_;clear g K2;simp only[Act.put,Qa,Qb,Qc];have aa:=ag.kx (KpX.of_below aj);refine⟨aa,?_⟩;refine wpAnyH_done (by kernel_rfl) ?_ _;have ax:KpX X wr y:=KpX.of_below (ab.trans (af.mono ab.size |>.trans (aj.mono (by have:=af.size;have:=ab.size;omega))));have cj:=ax.row ct bi.out;have h9:J done y:=QI HJ.out hj (ab.trans ((af.mono ab.size).trans (aj.mono (by have:=af.size;have:=ab.size;omega))));clear ct hj;have ca:PathsC lo A cap l X au aw av aq ar (own++[(j:Int)]) r y:=⟨aa.hr,aa.hA,cn,cl,co,λh=>by have:=ag.hX _ h;omega,λh=>by have:=ag.hX _ h;omega,λh=>by have:=ag.hX _ h;omega,ch.go aj,λ_ ad e h=>by have:=an ad e;have:=hS.hX _ h;omega,λe=>by have:=a1 e;omega,aa.hX,λad e=>by have:=an ad e;have:=hS.hls;omega,aa.hls⟩;have cb:∀i,X i->i<y.heap.size:=aa.hX;have cx:=Lh ca;have c1:=Lh ax;have b8:=Lh cb
   have ae:Hid (Ds.Nodup/\∀D∈Ds,W.heap.size<=D/\D<y.heap.size/\y.heap[D]? =some (.deferred (some []))):=⟨bh.out.1,λD hD=>by
    obtain⟨e1,e2⟩:=bh.out.2 D hD
    have e3:=ax.block D _ (λhx=>by have:=HC.out.hX D hx;omega) e2
    exact⟨e1,(Lr.1 e3).1,e3⟩⟩
   clear hS bb ag aa ab af aj ah cn cl co c6 c5 c7 ch a1 an ca ax cb bg;refine Abx ?_;gi_wp2_with fail
   have db:=Tr.kid_lt bj.out (x:=rt);have c0:=Lh (dk.out k r (own++[(j:Int)]) (by have:=Hn.out;omega) (by have:=ay.out;simp;omega) cu.out.1 lo X au aw av aq ar y cx.out);clear db;have s9:W.heap.size<y.heap.size:=cj.lt;have cy:Hid (J done y/\KpX X y y):=⟨h9,KpX.refl _ _⟩;clear h9
   refine Uo (gf:=209) (lb:=#[.pointer (some ⟨au,0,none⟩),.pointer (some ⟨aw,0,none⟩),.pointer (some ⟨av,0,none⟩)]) rfl (enters_of Tryz.func209 (by kernel_rfl) rfl) c0.out (λr h=>h.elim)
    (λh k=>h.trans k) (λV o o' ho hc=>⟨λi p hx hp=>by rw[World.putObj_heap_other (λe=>hx (.inr e))];exact hp,by simp⟩) (World.grownBy.refl _ _) (λ_=>rfl)
    (λd V=>J (done++d) V/\KpX X y V) (λc d V=>c=.ret/\Jx (done++d) V/\KpX X y V) (.inl trivial) ?hI ?hIx (by rw[LR];exact cy.out)
    (λd x a' V=>a'={ tmps:=#[.func (.yield lb) #[] #[],.pointer (some ⟨ba,0,none⟩),.pointer (some ⟨bo,0,none⟩),.pointer (some ⟨bl,0,none⟩),.pointer (some ⟨W.heap.size,0,none⟩),.int .i64 (j:Int),.int .i64 (r:Int),.int .i64 (x.to:Int),.slice x.A x.l.length x.cap,.func (.yield lb) #[] #[],.int .i64 (q:Int),.slice oa own.length oc,.bool true,.bool false,.slice A l.length cap,.int .i64 (q:Int),.slice (some ka) N kc,.int .i64 (N:Int),.int .i64 (j:Int),.bool true,.int .i64 (j:Int),.pointer (some (ka.add j)),.int .i64 (r:Int),.slice A l.length cap,.int .i64 (r:Int),.slice oa own.length oc,v6,.int .i64 (j:Int),.slice (some ⟨gg,0,none⟩) 1 1,.slice aq (own.length+1) ar,.func (.func 209) #[] #[.pointer (some ⟨au,0,none⟩),.pointer (some ⟨aw,0,none⟩),.pointer (some ⟨av,0,none⟩)],.int .i64 (x.to:Int),.slice x.A x.l.length x.cap,a2,a3,a4,a5,a6,a7],defers:=[] }/\PxP lo (Q5 (own++[(j:Int)]) r k) d x V) ?hAx ?assign ?body ?done ?stop
   case hI=>
    rintro d V V' row ⟨h1,s⟩ hg hr;refine⟨HJ.out _ _ _ row h1 hg (λi e=>.inr ?_),s.grown hg (λi e=>?_)⟩
    ·rcases hr i e with h|⟨h,o⟩
     ·exact h.elim
     ·exact⟨by omega,o⟩
    ·rcases hr i e with h|⟨h,o⟩
     ·exact h.elim
     ·exact h
   case hIx=>
    rintro c d V V' row ⟨h1,s,h3⟩ hg hr;refine⟨h1,cp.out _ _ _ row s hg (λi e=>.inr ?_),h3.grown hg (λi e=>?_)⟩
    ·rcases hr i e with h|⟨h,o⟩
     ·exact h.elim
     ·exact⟨by omega,o⟩
    ·rcases hr i e with h|⟨h,o⟩
     ·exact h.elim
     ·exact h
   case hAx=>
    rintro d x a' _ V V' row ⟨h1,⟨s,h4⟩,h3⟩ hg hr;refine⟨h1,⟨⟨s.rd.grown hg (λi e=>?_),s.nil,s.len⟩,h4⟩,h3⟩;rcases hr i e with h|⟨h,o⟩
    ·exact h.elim
    ·exact o
   case assign=>
    rintro l3 d x V K hI hP hK;have HK:=Lh hK;have HI:=Lh hI;have HP:=Lh hP;clear hK hI hP;unfold PtX.enc;gi_wp2_with fail
    exact HK.out _ _ (KeepsFrom.refl _ _) (KpX.refl _ _) HI.out ⟨rfl,HP.out⟩
   case body=>
    rintro l3 d x a' V dd _ ⟨h1,s⟩ ⟨rfl,hP⟩ cf;have ck:=s.row cj bi.out;have c3:=ck.cellv (i:=0) (v:=.func (.yield lb) #[] #[]) rfl;obtain⟨ci,cm,ao⟩:=hP;have ak:PxP lo (Q5 own q (.node rt ks)) (done++d) x V:=⟨ci,cm++ZF own (r+k.size) ((j+1:Nat):Int) (ks.drop (j+1)),by rw[<-Hd.out,XD bj.out, <-ao];simp⟩
    have am:(done++d).length<(Tr.node rt ks).size:=by
     obtain⟨_,dg,h3⟩:=ak;have h4:=congrArg List.length h3;rw[Jk]at h4;simp at h4;simp;omega
    obtain⟨c4,be,ai,a9,hy,hR⟩:=HY.out _ x _ h1 ak am;have bp:(Instr.yield lb #[.int .i64 (x.to:Int),.slice x.A x.l.length x.cap]).run Tryz.prog V=.ok (.round lb c4 be ai a9) V:=hy;have HR:=Lh hR;have H2:=Lh s;clear hy hR h1 s ci ao ak am cf ck dd;gi_wp2_with fail
    refine⟨rfl,HR.out.mono ?_⟩;clear bp HR c3;rintro e V2 (⟨rfl,al,u⟩|⟨rfl,al,u⟩)
    ·have HF:Hid (KeepsFrom y.heap.size V V2/\KpX (λi=>X i\/i=y.heap.size+1) V V2/\J (done++(d++[x])) V2/\KpX X y V2):=⟨u.keeps b8.out,u.more (λ_ h=>.inl h),by rw[<-Ly];exact al,H2.out.trans u⟩;clear al u;gi_wp2_with fail
     exact HF.out
    ·have HF:Hid (KeepsFrom y.heap.size V V2/\KpX (λi=>X i\/i=y.heap.size+1) V V2/\True/\Jx (done++(d++[x])) V2/\KpX X y V2):=⟨u.keeps b8.out,u.more (λ_ h=>.inl h),trivial,by rw[<-Ly];exact al,H2.out.trans u⟩;clear al u;gi_wp2_with fail
     exact⟨HF.out.1,HF.out.2.1,rfl,HF.out.2.2.2⟩
   case stop=>
    rintro D c d V hD _ ⟨rfl,s,h3⟩ hK;have cg:(D::Ds).Nodup:=NH.2 ⟨λh=>by have:=ae.out.2 D h;omega,ae.out.1⟩
    have a0:∀E∈D::Ds,W.heap.size<=E/\V.heap[E]? =some (.deferred (some [])):=λE hE=>by
     rcases Ls.1 hE with rfl|hE
     ·exact⟨by omega,hK⟩
     ·obtain⟨e1,e2,e3⟩:=ae.out.2 E hE;exact⟨e1,h3.block E _ (λhx=>by have:=HC.out.hX E hx;omega) e3⟩
    have c2:=Lh cg;have b9:=Lh a0;have H2:=Lh s;clear cg a0 s h3 hK hD;gi_wp2_with fail
    exact Xz (Jx (done++d)) W.heap.size (λV' E h1 s h3=>cp.out _ _ _ (some E) h3 (grownBy_putObj' _ _ _) (λr e=>by cases e;exact .inr ⟨h1,_,s,rfl⟩)) (λV' h=>⟨_,results_none rfl _ _ _,⟨_,rfl⟩,.inr ⟨_,trivial,h⟩⟩) (D::Ds) V c2.out b9.out H2.out
   case done=>
    rintro D xs V hD bd ⟨h1,s⟩ hK
    have HF:Hid (∀a',(∃u5 u6 u7 u8 bq br bs bt bu bv bw bx bz b0 b3 b4 b5 b7 a2 a3 a4 a5 a6 a7,a'={ tmps:=#[.func (.yield lb) #[] #[],.pointer (some ⟨ba,0,none⟩),.pointer (some ⟨bo,0,none⟩),.pointer (some ⟨bl,0,none⟩),.pointer (some ⟨W.heap.size,0,none⟩),u5,u6,u7,u8,.func (.yield lb) #[] #[],.int .i64 (q:Int),.slice oa own.length oc,.bool true,.bool false,.slice A l.length cap,.int .i64 (q:Int),.slice (some ka) N kc,.int .i64 (N:Int),.int .i64 ((j+1:Nat):Int),bq,br,bs,bt,bu,bv,bw,bx,bz,b0,b3,b4,b5,b7,a2,a3,a4,a5,a6,a7],defers:=(D::Ds).map AjD })->KK a' V):=λa' ha=>di.out _ _ (Handed.intro (N-(j+1)) (by omega) (dh.out _ _ _ ⟨j+1,done++xs,r+k.size,D::Ds,rfl,by omega,by
     show _=_
     rw[<-Hd.out,XD bj.out,LN,bd,Ly],dm,c1.out.trans s |> Hk.out.trans,h1,⟨NH.2 ⟨λh=>by have:=ae.out.2 D h;omega,ae.out.1⟩,λE hE=>by
     rcases Ls.1 hE with rfl|hE
     ·exact⟨by omega,hK⟩
     ·obtain⟨e1,e2,e3⟩:=ae.out.2 E hE
      exact⟨e1,s.block E _ (λhx=>by have:=HC.out.hX E hx;omega) e3⟩⟩,ha⟩))
    clear h1 s hK bd hD;have eb:(N:Int)<=2000:=by omega
    gi_wp2_with fail
    refine HF.out _ ?_
    repeat apply Exists.intro
    exact rfl
end Go.Proofs.YtkoikjnlpifbjaaGreat
