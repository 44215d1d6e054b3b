/- Lemmas for ArAll. -/
import Derived.Test.YtgnmkiafeplbpaaGreatDoorZf1
import Derived.Test.YtgnmkiafeplbpaaGreatDoorZf7
import Derived.Test.YtgnmkiafeplbpaaGreatDoorZf8
import Derived.Test.YtgnmkiafeplbpaaGreatDoorZf3
import Derived.Deep.RegionHeld3
import Derived.Sort.LoopGhostIn
set_option linter.unusedVariables false
set_option linter.unusedSimpArgs false
set_option maxRecDepth 100000
set_option maxHeartbeats 16000000
namespace Go.Proofs.YtgnmkiafeplbpaaGreatDoor
open Go.RowKit Go.Deep
attribute [local go_sem] Oper.semAt_some
structure KpX (X:Nat->Prop)(A B:World):Prop where
 block:∀k o,¬X k->A.heap[k]? =some o->B.heap[k]? =some o
 size:A.heap.size<=B.heap.size
theorem KpX.trans{X:Nat->Prop}{A B C:World}(h:KpX X A B)(k:KpX X B C):KpX X A C:=⟨λi o hx ho=>k.block i o hx (h.block i o hx ho),Lj h.size k.size⟩
theorem KpX.refl (X:Nat->Prop)(A:World):KpX X A A:=⟨λ_ _ _ h=>h,Nat.le_refl _⟩
theorem KpX.of_below{X:Nat->Prop}{A B:World}(h:Below A.heap.size A B):KpX X A B:=⟨λk o _ ho=>by rw[h.block k (Lt.1 ho).1];exact ho,h.size⟩
theorem KpX.more{X Y:Nat->Prop}{A B:World}(h:KpX X A B)(hs:∀k,X k->Y k):KpX Y A B:=⟨λk o hx ho=>h.block k o (λhk=>hx (hs k hk)) ho,h.size⟩
theorem KpX.row{X:Nat->Prop}{A B:World}(h:KpX X A B){g:Nat}{t:TypeId}{cs:Array Value}(hr:Row A g t cs)(hx:¬X g):Row B g t cs:=h.block g _ hx hr
theorem KpX.keeps{X:Nat->Prop}{A B:World}(h:KpX X A B){b:Nat}(hb:∀k,X k->k<b):KeepsFrom b A B:=⟨h.size,λk o hk ho _=>h.block k o (λhx=>by have:=hb k hx;omega) ho⟩
theorem KpX.rd{X:Nat->Prop}{A B:World}(h:KpX X A B){ad:Option Addr}{xs:List Value}(hr:Rd A ad xs)(hx:xs≠[]->∀a,ad=some a->¬X a.block):Rd B ad xs:=λj u hj=>by
 obtain⟨a,e,i⟩:=hr j u hj;have d:xs≠[]:=λe=>by rw[e]at hj;simp at hj
 have c:=World.block_lt_of_cell? _ _ i;have b:(a.add j).block=a.block:=JU a j;rw[b]at c;have g:A.heap[a.block]? =some A.heap[a.block]:=N9 c;have k:=h.block _ _ (hx d a e) g;exact⟨a,e,(World.cell?_of_block (by rw[b];exact k.trans g.symm)).trans i⟩
structure PtX where
 to:Nat
 A:Option Addr
 cap:Nat
 l:List Int
def PtX.f (x:PtX):Nat×List Int:=(x.to,x.l)
def PtX.enc (x:PtX):Array Value:=#[.int .i64 (x.to:Int),.slice x.A x.l.length x.cap]
structure PtX.ok (x:PtX)(W:World):Prop where
 rd:Rd W x.A (Qj x.l)
 nil:x.A=none->x.l=[]
 len:x.l.length<=2000
theorem PtX.ok.go{x:PtX}{W W':World}(h:x.ok W)(b:Below W.heap.size W W'):x.ok W':=⟨h.rd.go b,h.nil,h.len⟩
def PxP (lo:Nat)(full:List (Nat×List Int))(pre:List PtX)(x:PtX)(W:World):Prop:=(x.ok W/\∀ad,x.A=some ad->lo<=ad.block)/\∃rest,pre.map PtX.f++x.f::rest=full
def Amd (lo:Nat)(l:List Nd)(X:Nat->Prop)(ba bo bl:Nat)(own:List Int)(q:Nat)(t:Tr)(w:World):Prop:=
 Aae Tryz.prog 280 #[.pointer (some ⟨ba,0,none⟩),.pointer (some ⟨bo,0,none⟩),.pointer (some ⟨bl,0,none⟩)] PtX.enc (λ_=>False) (λlb=>KpX (λi=>X i\/i=lb)) (PxP lo (QS own q t)) (λxs=>xs.map PtX.f=QS own q t) (λ_=>True) t.size True w
structure PathsC (lo:Nat)(A:Option Addr)(cap:Nat)(l:List Nd)(X:Nat->Prop)(ba bo bl:Nat)(oa:Option Addr)(oc:Nat)(own:List Int)(q:Nat)(w:World):Prop where
 hr:Rd w A (l.flatMap Nd.cells)
 hA:l.flatMap Nd.cells≠[]->∀ad,A=some ad->¬X ad.block
 rl:Row w bl 23 #[.slice A l.length cap]
 ra:Row w ba 3 #[.int .i64 (q:Int)]
 ro:Row w bo 22 #[.slice oa own.length oc]
 xl:¬X bl
 xa:¬X ba
 xo:¬X bo
 ho:Rd w oa (Qj own)
 hoX:Qj own≠[]->∀ad,oa=some ad->¬X ad.block
 hon:oa=none->own=[]
 hX:∀k,X k->k<w.heap.size
 hlo:∀ad,oa=some ad->lo<=ad.block
 hls:lo<=w.heap.size
theorem PathsC.kx{lo:Nat}{A:Option Addr}{cap:Nat}{l:List Nd}{X:Nat->Prop}{ba bo bl:Nat}{oa:Option Addr}{oc:Nat}{own:List Int}{q:Nat}{w w':World}(h:PathsC lo A cap l X ba bo bl oa oc own q w)(k:KpX X w w'):PathsC lo A cap l X ba bo bl oa oc own q w':=
 ⟨k.rd h.hr h.hA,h.hA,k.row h.rl h.xl,k.row h.ra h.xa,k.row h.ro h.xo,h.xl,h.xa,h.xo,k.rd h.ho h.hoX,h.hoX,h.hon,λi hi=>Lg (h.hX i hi) k.size,h.hlo,Lj h.hls k.size⟩
theorem X3{W:World}{A:Option Addr}{xs:List Value}(h:Rd W A xs)(hne:xs≠[]){ad:Addr}(e:A=some ad):ad.block<W.heap.size:=by
 cases xs with
 |nil=>exact absurd rfl hne
 |cons u xs=>
  obtain⟨a,b,c⟩:=h 0 u rfl;have:=World.block_lt_of_cell? _ _ c;rw[JU]at this;rw[e]at b;injection b with b;rw[b];exact this
theorem PathsC.add{lo:Nat}{A:Option Addr}{cap:Nat}{l:List Nd}{X:Nat->Prop}{ba bo bl:Nat}{oa:Option Addr}{oc:Nat}{own:List Int}{q:Nat}{w W:World}{lb:Nat}(h:PathsC lo A cap l X ba bo bl oa oc own q w)(b:Below w.heap.size w W)(h1:w.heap.size<=lb)(h2:lb<W.heap.size):PathsC lo A cap l (λi=>X i\/i=lb) ba bo bl oa oc own q W:=by
 have d:∀k,k<w.heap.size->¬X k->¬(X k\/k=lb):=λk c j h=>by
  rcases h with h|h
  ·exact j h
  ·omega
 exact⟨h.hr.go b,λa g e=>d _ (X3 h.hr a e) (h.hA a g e),h.rl.below b h.rl.lt,h.ra.below b h.ra.lt,h.ro.below b h.ro.lt,d _ h.rl.lt h.xl,d _ h.ra.lt h.xa,d _ h.ro.lt h.xo,h.ho.go b,λa g e=>d _ (X3 h.ho a e) (h.hoX a g e),h.hon,λk c=>by
  rcases c with c|c
  ·exact Lg (h.hX k c) b.size
  ·omega,h.hlo,Lj h.hls b.size⟩
def AkV (D:Nat):Deferred:={ target:=.collected D,args:=#[] }
theorem Xv{F:Fence}{n:Nat}{P:Program}{fn:Func}{tmps:Array Value}{R:Ending->World->Prop}(Jp:World->Prop)(base:Nat)(hput:∀(W:World) (D:Nat),base<=D->W.heap[D]? =some (.deferred (some []))->Jp W->Jp (W.putObj D (.deferred none)))(hend:∀W,Jp W->LeavesInM F n P fn tmps R [] .returning W):
 ∀(Ds:List Nat) (w:World),Ds.Nodup->(∀D∈Ds,base<=D/\w.heap[D]? =some (.deferred (some [])))->Jp w->LeavesInM F n P fn tmps R (Ds.map AkV) .returning w
 |[],w,_,_,h=>hend w h
 |D::Ds,w,hn,hD,h=>by
  obtain⟨h1,h2⟩:=hD D (by simp)
  rw[ND]at hn
  refine⟨by simp,.inl ⟨D,_,rfl,run_takeDeferred h2,Xv Jp base hput hend Ds _ hn.2 (λE hE=>?_) (hput w D h1 h2 h)⟩⟩
  obtain⟨h3,h4⟩:=hD E (by simp[hE])
  exact⟨h3,by rw[World.putObj_heap_other (λe=>hn.1 (by rw[<-e];exact hE))];exact h4⟩
theorem Tr.kid_lt{ks:List Tr}{j:Nat}{k:Tr}(h:ks[j]? =some k){x:Nd}:k.size<(Tr.node x ks).size:=by
 have c:=U4 (Li h);have a:=Tr.size_eq (Tr.node x ks);have b:(Tr.node x ks).kids=ks:=rfl;rw[b]at a;omega
theorem KpX.grown{X:Nat->Prop}{w A B:World}(h:KpX X w A){row:Option Nat}(hg:A.grownBy B row)(hr:∀r,row=some r->w.heap.size<=r):KpX X w B:=
 ⟨λk o hx ho=>by
  have h1:=h.block k o hx ho
  have hk:=(Lt.1 ho).1
  exact(hg.block k (Lt.1 h1).1 (λe=>by have:=hr k e.symm;omega)).trans h1,Lj h.size hg.size⟩
theorem Rd.grown{A B:World}{ad:Option Addr}{xs:List Value}(h:Rd A ad xs){row:Option Nat}(hg:A.grownBy B row)(hr:∀r,row=some r->∃o:Obj,A.heap[r]? =some o/\o.isCells=false):Rd B ad xs:=λj u hj=>by
 obtain⟨a,e,b⟩:=h j u hj;have i:(A.cell? (a.add j)).isSome=true:=by rw[b];rfl
 refine⟨a,e,?_⟩
 have g:row≠some (a.add j).block:=λe=>by
  obtain⟨o,c,d⟩:=hr _ e;unfold World.cell? at b;split at b
  ·rename_i l t m k;rw[k]at c;injection c with c;subst c;cases d
  ·cases b
 exact(World.cell?_of_block (hg.block _ (World.block_lt_of_cell? _ _ b) (Ne.symm g))).trans b
theorem AcA{Q:Exit->Act->World->Prop}{a:Act}{w:World}(h:Q .normal a w):NoPanic Q .normal a w:=h
theorem UX:∀ks:List Tr,ks.length<=(QM ks).length
 |[]=>by simp
 | .node x k::ks=>by
  have:=UX ks
  rw[QM,La,Tr.flat,Le,Le];omega
structure PathsFn (A:Option Addr)(cap:Nat)(l:List Nd)(q:Nat)(oa:Option Addr)(oc:Nat)(own:List Int)(w w':World)(e:Ending):Prop where
 ex:∃bl ba bo,e=.returned (.func (.func 280) #[] #[.pointer (some ⟨ba,0,none⟩),.pointer (some ⟨bo,0,none⟩),.pointer (some ⟨bl,0,none⟩)])/\Row w' bl 23 #[.slice A l.length cap]/\Row w' ba 3 #[.int .i64 (q:Int)]/\Row w' bo 22 #[.slice oa own.length oc]/\w.heap.size<=bl/\w.heap.size<=ba/\w.heap.size<=bo/\Below w.heap.size w w'
theorem YP (A:Option Addr)(cap:Nat)(l:List Nd)(q:Nat)(oa:Option Addr)(oc:Nat)(own:List Int)(w:World):
 Calls Tryz.prog 267 #[.slice A l.length cap,.int .i64 (q:Int),.slice oa own.length oc] w λe w'=>PathsFn A cap l q oa oc own w w' e:=by
 go_enter Tryz.func267,Tryz.ntmps267
 go_wp2_with (refine Qx _ _ rfl ?_)
 refine Stop.to ?_;refine Qf rfl 23 _ rfl #[.slice A l.length cap] rfl ?_;intro G v m a k;go_wp2_with (refine Qx _ _ rfl ?_)
 refine Stop.to ?_;refine Qf rfl 3 _ rfl #[.int .i64 (q:Int)] rfl ?_;intro J x h i b;go_wp2_with (refine Qx _ _ rfl ?_)
 refine Stop.to ?_;refine Qf rfl 22 _ rfl #[.slice oa own.length oc] rfl ?_;intro K y j n c;have t:=(a.below b (Lg a.lt h)).below c (by have:=a.lt;have:=b.size;omega);have u:=i.below c (Lg i.lt j);have d:=(Below.refl w.heap.size w).trans (k.mono m);have g:=d.trans ((b.mono h).mono d.size);have o:=g.trans ((c.mono j).mono g.size);have p:w.heap.size<=J:=Lj d.size h;have s:w.heap.size<=K:=Lj g.size j;clear a i k b c d g;go_wp2
 go_ret
 exact⟨G,J,K,rfl,t,u,n,m,p,s,o⟩
theorem Xz{own:List Int}{r:Nat}{j:Nat}{ks:List Tr}{k:Tr}(hk:ks[j]? =some k):Zj own r (j:Int) (ks.drop j)=QS (own++[(j:Int)]) r k++Zj own (r+k.size) ((j+1:Nat):Int) (ks.drop (j+1)):=by
 obtain⟨a,rfl⟩:=Lf.1 hk;rw[LV a,Zj];congr 1
theorem Agi{q r j:Nat}{ks:List Tr}{k:Tr}(hk:ks[j]? =some k)(h:Zm r (ks.drop j)=(Zm (q+1) ks).drop j):(Zm (q+1) ks)[j]? =some r/\Zm (r+k.size) (ks.drop (j+1))=(Zm (q+1) ks).drop (j+1):=by
 obtain⟨a,rfl⟩:=Lf.1 hk;rw[LV a,Zm]at h;constructor
 ·have:=congrArg (λl=>l[0]?) h;simp at this;exact this.symm
 ·have:=congrArg (λl=>l.drop 1) h;simp only[Nk,List.drop_zero,Nf]at this;exact this
theorem AgD:(Tryz.prog.info? 3).map (λi=>(i.zero,i.size))=some (some (.int .i64 0),1):=by kernel_rfl
theorem Aga (A:Option Addr)(cap:Nat)(l:List Nd)(hl:l.length<=1000):∀(n:Nat) (t:Tr) (q:Nat) (own:List Int),t.size<=n->own.length+t.size<=2000->At l q t->∀(lo:Nat) (X:Nat->Prop) (ba bo bl:Nat) (oa:Option Addr) (oc:Nat) (w:World),PathsC lo A cap l X ba bo bl oa oc own q w->Amd lo l X ba bo bl own q t w:=by
 intro n
 induction n with
 |zero=>intro t q own hn _ cq;have:=cq.le;cases t;simp[Tr.size,Tr.flat]at hn
 |succ n ih=>
 intro t q own hn bm cq lo X ba bo bl oa oc w hC;intro lb J Jx W de bn _ hJ dp hY h0;have dk:=Lv ih;have Hl:=Lv hl;have Hn:=Lv hn;have ay:=Lv bm;have dj:=Lv cq;have du:Below w.heap.size w W:=⟨bn.os,bn.tape,bn.output,bn.size,λk hk=>bn.block k hk (by simp)⟩;have c8:=hC.add du de.1 de.2;clear hC de du bn w;replace hY:∀b x W1,J b W1->PxP lo (QS own q t) b x W1->b.length<t.size->YieldAt Fence.wide 0 Tryz.prog lb (PtX.enc x) W1 λe W'=>(e=.returned (.bool true)/\J (b++[x]) W'/\KpX (λi=>X i\/i=lb) W1 W')\/(e=.returned (.bool false)/\Jx (b++[x]) W'/\KpX (λi=>X i\/i=lb) W1 W'):=hY;generalize (λi=>X i\/i=lb)=X1 at c8 hY;clear X;obtain⟨X,rfl⟩:∃X,X=X1:=⟨_,rfl⟩;have HC:=Lv c8;have HJ:=Lv hJ;have cp:=Lv dp;have HY:=Lv hY;clear ih hl hn bm cq c8 hJ dp hY;refine callsIn_of_wp_marks Tryz.func280 rfl trivial ?_ rfl;simp only[Tryz.ntmps280,Ly,Le,Ll,Nat.reduceAdd,Nat.reduceSub,Ln,Lp,Lz,LD,Lu,Lk];obtain⟨Y,da⟩:∃Y,Y=W.heap.size:=⟨_,rfl⟩;obtain⟨W1,c9⟩:∃W1,W1=W.alloc (.cells #[.func (.yield lb) #[] #[]] 340):=⟨_,rfl⟩;have rY:Row W1 Y 340 #[.func (.yield lb) #[] #[]]:=by rw[c9,da];exact Row.new _ _ _
 have b1:Below W.heap.size W W1:=by rw[c9];exact(Below.refl _ _).alloc (Nat.le_refl _) _
 have dt:¬X Y:=λh=>by have:=HC.out.hX Y h;omega
 have z:J [] W1:=QI HJ.out h0 b1;have a8:=Lv (HC.out.kx (KpX.of_below b1));have cA:=a8.out.ra.cellv (i:=0) (v:=.int .i64 (q:Int)) rfl;have cO:=a8.out.ro.cellv (i:=0) (v:=.slice oa own.length oc) rfl;have cY:=rY.cellv (i:=0) (v:=.func (.yield lb) #[] #[]) rfl
 have dw:PxP lo (QS own q t) [] ⟨q,oa,oc,own⟩ W1:=by
  refine⟨⟨⟨a8.out.ho,a8.out.hon,by have:=ay.out;simp only;omega⟩,a8.out.hlo⟩,?_⟩;cases t with
  |node x ks=>exact⟨Zj own (q+1) 0 ks,by rw[QS];rfl⟩
 obtain⟨fn,tmps,assign,body,hy,hR⟩:=HY.out _ ⟨q,oa,oc,own⟩ _ z dw (by cases t;simp[Tr.size,Tr.flat]);have bp:(Instr.yield lb #[.int .i64 (q:Int),.slice oa own.length oc]).run Tryz.prog W1=.ok (.round lb fn tmps assign body) W1:=hy;have HR:=Lv hR;have d3:=Lv b1;have bi:=Lv dt;have d5:=Lv da;clear hR hy h0 z dw b1 dt;subst da;subst c9;gi_wp2_with fail
 refine⟨rfl,HR.out.mono ?_⟩;rintro e W2 (⟨rfl,hj,hk⟩|⟨rfl,ed,hk⟩);rotate_left
 ·clear cA cO cY bp HR hk;gi_wp2;exact⟨_,results_none rfl _ _ _,⟨_,rfl⟩,.inr ⟨_,trivial,ed⟩⟩
 have bf:=Lv (a8.out.kx hk);have cs:=hk.row rY bi.out;have d6:=bf.out.ra.cellv (i:=0) (v:=.int .i64 (q:Int)) rfl;have d8:=bf.out.rl.cellv (i:=0) (v:=.slice A l.length cap) rfl;have ep:W.heap.size<W2.heap.size:=cs.lt;clear cA cO cY bp HR hk rY a8 d3 d5;gi_wp2_with fail
 refine⟨trivial,rfl,(callsIn_wide.2 (Aeq A cap l (q:Int) W2 bf.out.hr Hl.out)).mono ?_⟩;rintro e w2 ⟨v,rfl,cx,b2⟩;obtain⟨KA,kc,rfl,ds,ej,ek,dr⟩:=U8 cx;obtain⟨rt,ks,rfl⟩:∃rt ks,t=.node rt ks:=by cases t;exact⟨_,_,rfl⟩
 have dc:kidsZ l (q:Int)=YM (Zm (q+1) ks):=dj.out.kidsZ;have dy:(Zm (q+1) ks).length=ks.length:=X4 _ _;obtain⟨N,hN⟩:∃N,N=ks.length:=⟨_,rfl⟩;have dv:(kidsZ l (q:Int)).length=N:=by rw[dc,Acy,dy,hN]
 have eh:N<=2000:=by
  have z:ks.length<=(Tr.node rt ks).size:=by have:=UX ks;rw[Tr.size,Tr.flat,Le];omega
  have:=ay.out;omega
 have h3:=QI HJ.out hj b2;have dz:=Lv (bf.out.kx (KpX.of_below b2));have eg:=cs.below b2 cs.lt;have d1:=Lv ds;have d0:=Lv dr;have d4:=Lv dc;have HN:=Lv hN;have en:W2.heap.size<=w2.heap.size:=b2.size;have d2:Hid (Qj (kidsZ l (q:Int))≠[]->∀ad,KA=some ad->¬X ad.block):=λ_ ad e hx=>by have:=d0.out ad e;have:=bf.out.hX _ hx;omega
 clear cx ds dr dc hN dy b2 hj d6 d8 cs bf;rw[dv];clear dv;gi_wp2_with fail
 refine wpIn_loop_ghost_k (λm a wr=>∃(j:Nat) (done:List PtX) (r:Nat) (Ds:List Nat),m=N-j/\j<=N/\Hid (done.map PtX.f++Zj own r (j:Int) (ks.drop j)=QS own q (.node rt ks))/\Hid (Zm r (ks.drop j)=(Zm (q+1) ks).drop j)/\Hid (KpX X w2 wr)/\J done wr/\Hid (Ds.Nodup/\∀D∈Ds,W.heap.size<=D/\wr.heap[D]? =some (.deferred (some [])))/\∃u5 u6 u7 u8 bq br bs bt bu bv bw bx bz b0 b3 b4 b5 b7 a2 a3 a4 a5 a6 a7,a={ tmps:=#[.func (.yield lb) #[] #[],.pointer (some ⟨ba,0,none⟩),.pointer (some ⟨bo,0,none⟩),.pointer (some ⟨bl,0,none⟩),.pointer (some ⟨W.heap.size,0,none⟩),u5,u6,u7,u8,.func (.yield lb) #[] #[],.int .i64 (q:Int),.slice oa own.length oc,.bool true,.bool false,.slice A l.length cap,.int .i64 (q:Int),.slice KA N kc,.int .i64 (N:Int),.int .i64 (j:Int),bq,br,bs,bt,bu,bv,bw,bx,bz,b0,b3,b4,b5,b7,a2,a3,a4,a5,a6,a7],defers:=Ds.map AkV }) N ⟨0,_,q+1,[],rfl,Nat.zero_le _,by show _=_;rw[QS];rfl,by show _=_;rfl,Lv (KpX.refl _ _),h3,⟨List.nodup_nil,λD h=>by simp at h⟩,_,_,_,_,_,_,_,_,_,_,_,_,_,_,_,_,_,_,_,_,_,_,_,_,rfl⟩ ?_
 ·clear h3;rintro m a wr ⟨j,done,r,Ds,rfl,el,Hd,Hs,Hk,hj,bh,u5,u6,u7,u8,bq,br,bs,bt,bu,bv,bw,bx,bz,b0,b3,b4,b5,b7,a2,a3,a4,a5,a6,a7,rfl⟩ JJ KK dn dq;have dh:=Lv dn;have di:=Lv dq;clear dn dq;by_cases em:j<N;rotate_left
  ·obtain rfl:j=N:=by omega
   gi_wp2_with fail
   have bd:done.map PtX.f=QS own q (.node rt ks):=by
    have:=Hd.out;rw[List.drop_of_length_le (by rw[HN.out];exact Nat.le_refl _),Zj,LT]at this;exact this
   exact Xv (J done) W.heap.size (λV' E z g h3=>HJ.out _ _ _ (some E) h3 (grownBy_putObj' _ _ _) (λr e=>by cases e;exact .inr ⟨z,_,g,rfl⟩)) (λV' h=>⟨_,results_none rfl _ _ _,⟨_,rfl⟩,.inl ⟨_,bd,h⟩⟩) Ds wr bh.out.1 bh.out.2 hj
  obtain⟨k,cr⟩:∃k,ks[j]? =some k:=⟨_,Ld (by have:=HN.out;omega)⟩;obtain⟨df,dx⟩:=Agi cr Hs.out;have cw:=dj.out.kids.spot j r k df cr;have bg:=Lv (dz.out.kx Hk.out);obtain⟨ka,ee,ef⟩:=Q4 (Hk.out.rd d1.out d2.out) (k:=j) (x:=(r:Int)) (by rw[d4.out];simp[YM,df]);have ct:=Hk.out.row eg bi.out;have bj:=Lv cr;have dm:=Lv dx;have cu:=Lv cw;have ei:(j:Int)<(N:Int):=by omega
  have eo:w2.heap.size<=wr.heap.size:=Hk.out.size;have d7:=bg.out.ra.cellv (i:=0) (v:=.int .i64 (q:Int)) rfl;have d9:=bg.out.rl.cellv (i:=0) (v:=.slice A l.length cap) rfl;have ea:=bg.out.ro.cellv (i:=0) (v:=.slice oa own.length oc) rfl;clear cr df dx cw;subst ee;gi_wp2_with fail
  refine wpIn_wide.2 ?_;refine wp_region_noPanic ?_;refine wp_region_held (S:=λW=>PathsC lo A cap l X ba bo bl oa oc own q W) (by kernel_rfl) ?_;simp only[Ly,Le,Ll,Nat.reduceAdd,Ln,Lp,Lz,Lu,Lk];show wpAnyH _ _ _ _ _ _ _ _ wr.drew;have hS:PathsC lo A cap l X ba bo bl oa oc own q wr.drew:=bg.out.kx (KpX.of_below (St.drew (S:=λW=>Below wr.heap.size wr W) (Below.refl _ _)));have ab:Below wr.heap.size wr wr.drew:=St.drew (S:=λW=>Below wr.heap.size wr W) (Below.refl _ _);generalize wr.drew=w5 at hS ab|-;clear d7 d9 ea ef;(refine tkH 0 (.slice A l.length cap) rfl (Qd rfl (λW hW=>by((have h:=hW.rl.cellv (i:=0) (v:=.slice A l.length cap) rfl;go_simp)))) ?_;simp only[Act.put,Qa,Qb,Qc]);(refine tkH 1 (.int .i64 (r:Int)) rfl (Qd rfl (λW hW=>by(go_simp))) ?_;simp only[Act.put,Qa,Qb,Qc]);(refine tkH 2 (.slice oa own.length oc) rfl (Qd rfl (λW hW=>by((have h:=hW.ro.cellv (i:=0) (v:=.slice oa own.length oc) rfl;go_simp)))) ?_;simp only[Act.put,Qa,Qb,Qc]);(refine tkH 4 (.int .i64 (j:Int)) rfl (Qd rfl (λW hW=>by(go_simp))) ?_;simp only[Act.put,Qa,Qb,Qc]);refine wpAnyH_all (rs:=[3,5]) (by kernel_rfl) (by simp) (λi hi=>?_);have ec:i=3\/i=5:=by simpa using hi
  clear hi;rcases ec with rfl|rfl
  ·refine Qg rfl rfl (λK2 d=>?_);refine Qm 281 #[.slice oa own.length oc] (w1:=w5) (by go_simp) ((Ab3 oa oc own w5 hS.ho hS.hon (by have:=ay.out;omega)).mono ?_);rintro e w6 ⟨v6,rfl,bc,b6⟩;refine⟨_,rfl,?_⟩;refine d _ _ ?_;clear d K2;simp only[Act.put,Qa,Qb,Qc];have bb:=hS.kx (KpX.of_below b6);refine⟨bb,?_⟩;(refine wpAnyH_all (rs:=[5]) (by kernel_rfl) (by simp) (λi hi=>?_);obtain rfl:i=5:=by simpa using hi);refine Qg rfl rfl (λK2 d=>?_);refine Qr (.slice (some ⟨w6.heap.size,0,none⟩) 1 1) (Ja [(0,.tmp 27)] rfl (Kl (cells:=#[.int .i64 (j:Int)]) Tryz.underlying22 AgD (by decide) (by decide) (by kernel_rfl) w6)) ?_;have rg:=Z5 w6 [.int .i64 (j:Int)] 3;have bk:=(Below.refl w6.heap.size w6).alloc (Nat.le_refl _) (.cells #[.int .i64 (j:Int)] 3);have y:=QU bc bk;refine d _ _ ?_;clear d K2;simp only[Act.put,Qa,Qb,Qc];have ah:Below w5.heap.size w5 (w6.alloc (.cells #[.int .i64 (j:Int)] 3)):=b6.trans (bk.mono b6.size);generalize w6.alloc (.cells #[.int .i64 (j:Int)] 3)=w7 at rg ah y|-;clear bk;obtain⟨gg,cc⟩:∃gg,gg=w6.heap.size:=⟨_,rfl⟩;rw[<-cc]at rg|-;clear cc;refine⟨hS.kx (KpX.of_below ah),?_⟩;have bm:=ay.out;obtain⟨v8,w8,ap,ac,cd,_⟩:=Zq (P:=Tryz.prog) 22 3 (.int .i64 0) 1 8 Tryz.underlying22 Ju rfl (by decide) (by decide) y ah.size rg (m:=1) (cap:=1) rfl (KF [(j:Int)]) (by simp) (by omega);have af:=QJ ah y cd ah.size (Nat.le_refl _);rw[show Qj own++[Value.int .i64 (j:Int)]=Qj (own++[(j:Int)]) by simp[Qj]]at ac;obtain⟨aq,ar,rfl,ch,_,a1,an⟩:=U8 ac;have ce:own.length+1=(own++[(j:Int)]).length:=by simp
   rw[ce]at ap;have az:=Lv ap;clear ce bm ap y ac cd rg;(refine wpAnyH_all (rs:=[6]) (by kernel_rfl) (by simp) (λi hi=>?_);obtain rfl:i=6:=by simpa using hi);refine Qg rfl rfl (λK2 d=>?_);refine Qr _ (QF rfl az.out) ?_;refine d _ _ ?_;clear d K2 az;simp only[Act.put,Qa,Qb,Qc];have ag:=hS.kx (KpX.of_below af);refine⟨ag,?_⟩;(refine wpAnyH_all (rs:=[7]) (by kernel_rfl) (by simp) (λi hi=>?_);obtain rfl:i=7:=by simpa using hi);refine Qg rfl rfl (λK2 d=>?_);refine Qm 267 #[.slice A l.length cap,.int .i64 (r:Int),.slice aq (own++[(j:Int)]).length ar] (w1:=w8) (by go_simp) ((YP A cap l r aq ar (own++[(j:Int)]) w8).mono ?_);rintro e u ⟨av,au,aw,rfl,cn,cl,co,c6,c5,c7,aj⟩;refine⟨_,rfl,?_⟩;refine d _ _ ?_;clear d K2;simp only[Act.put,Qa,Qb,Qc];have aa:=ag.kx (KpX.of_below aj);refine⟨aa,?_⟩;refine wpAnyH_done (by kernel_rfl) ?_ _;have ax:KpX X wr u:=KpX.of_below (ab.trans (af.mono ab.size |>.trans (aj.mono (by have:=af.size;have:=ab.size;omega))));have cj:=ax.row ct bi.out;have h9:J done u:=QI HJ.out hj (ab.trans ((af.mono ab.size).trans (aj.mono (by have:=af.size;have:=ab.size;omega))));clear ct hj;have ca:PathsC lo A cap l X au aw av aq ar (own++[(j:Int)]) r u:=⟨aa.hr,aa.hA,cn,cl,co,λh=>by have:=ag.hX _ h;omega,λh=>by have:=ag.hX _ h;omega,λh=>by have:=ag.hX _ h;omega,ch.go aj,λ_ ad e h=>by have:=an ad e;have:=hS.hX _ h;omega,λe=>by have:=a1 e;omega,aa.hX,λad e=>by have:=an ad e;have:=hS.hls;omega,aa.hls⟩;have cb:∀i,X i->i<u.heap.size:=aa.hX;have cy:=Lv ca;have c1:=Lv ax;have b8:=Lv cb
   have ae:Hid (Ds.Nodup/\∀D∈Ds,W.heap.size<=D/\D<u.heap.size/\u.heap[D]? =some (.deferred (some []))):=⟨bh.out.1,λD hD=>by
    obtain⟨e1,e2⟩:=bh.out.2 D hD
    have e3:=ax.block D _ (λhx=>by have:=HC.out.hX D hx;omega) e2
    exact⟨e1,(Lt.1 e3).1,e3⟩⟩
   clear hS bb ag aa ab af aj ah cn cl co c6 c5 c7 ch a1 an ca ax cb bg;refine AcA ?_;gi_wp2_with fail
   have db:=Tr.kid_lt bj.out (x:=rt);have c0:=Lv (dk.out k r (own++[(j:Int)]) (by have:=Hn.out;omega) (by have:=ay.out;simp;omega) cu.out.1 lo X au aw av aq ar u cy.out);clear db;have s9:W.heap.size<u.heap.size:=cj.lt;have cz:Hid (J done u/\KpX X u u):=⟨h9,KpX.refl _ _⟩;clear h9
   refine YU (gf:=280) (lb:=#[.pointer (some ⟨au,0,none⟩),.pointer (some ⟨aw,0,none⟩),.pointer (some ⟨av,0,none⟩)]) rfl (enters_of Tryz.func280 (by kernel_rfl) rfl) c0.out (λr h=>h.elim)
    (λh k=>h.trans k) (λV o o' ho hc=>⟨λi p hx hp=>by rw[World.putObj_heap_other (λe=>hx (.inr e))];exact hp,by simp⟩) (World.grownBy.refl _ _) (λ_=>rfl)
    (λb V=>J (done++b) V/\KpX X u V) (λc b V=>c=.ret/\Jx (done++b) V/\KpX X u V) (.inl trivial) ?hI ?hIx (by rw[LT];exact cz.out)
    (λb x a' V=>a'={ tmps:=#[.func (.yield lb) #[] #[],.pointer (some ⟨ba,0,none⟩),.pointer (some ⟨bo,0,none⟩),.pointer (some ⟨bl,0,none⟩),.pointer (some ⟨W.heap.size,0,none⟩),.int .i64 (j:Int),.int .i64 (r:Int),.int .i64 (x.to:Int),.slice x.A x.l.length x.cap,.func (.yield lb) #[] #[],.int .i64 (q:Int),.slice oa own.length oc,.bool true,.bool false,.slice A l.length cap,.int .i64 (q:Int),.slice (some ka) N kc,.int .i64 (N:Int),.int .i64 (j:Int),.bool true,.int .i64 (j:Int),.pointer (some (ka.add j)),.int .i64 (r:Int),.slice A l.length cap,.int .i64 (r:Int),.slice oa own.length oc,v6,.int .i64 (j:Int),.slice (some ⟨gg,0,none⟩) 1 1,.slice aq (own.length+1) ar,.func (.func 280) #[] #[.pointer (some ⟨au,0,none⟩),.pointer (some ⟨aw,0,none⟩),.pointer (some ⟨av,0,none⟩)],.int .i64 (x.to:Int),.slice x.A x.l.length x.cap,a2,a3,a4,a5,a6,a7],defers:=[] }/\PxP lo (QS (own++[(j:Int)]) r k) b x V) ?hAx ?assign ?body ?done ?stop
   case hI=>
    rintro b V V' row ⟨z,g⟩ hg hr;refine⟨HJ.out _ _ _ row z hg (λi e=>.inr ?_),g.grown hg (λi e=>?_)⟩
    ·rcases hr i e with h|⟨h,o⟩
     ·exact h.elim
     ·exact⟨by omega,o⟩
    ·rcases hr i e with h|⟨h,o⟩
     ·exact h.elim
     ·exact h
   case hIx=>
    rintro c b V V' row ⟨z,g,h3⟩ hg hr;refine⟨z,cp.out _ _ _ row g hg (λi e=>.inr ?_),h3.grown hg (λi e=>?_)⟩
    ·rcases hr i e with h|⟨h,o⟩
     ·exact h.elim
     ·exact⟨by omega,o⟩
    ·rcases hr i e with h|⟨h,o⟩
     ·exact h.elim
     ·exact h
   case hAx=>
    rintro b x a' _ V V' row ⟨z,⟨g,h4⟩,h3⟩ hg hr;refine⟨z,⟨⟨g.rd.grown hg (λi e=>?_),g.nil,g.len⟩,h4⟩,h3⟩;rcases hr i e with h|⟨h,o⟩
    ·exact h.elim
    ·exact o
   case assign=>
    rintro l3 b x V K hI hP hK;have HK:=Lv hK;have HI:=Lv hI;have HP:=Lv hP;clear hK hI hP;unfold PtX.enc;gi_wp2_with fail
    exact HK.out _ _ (KeepsFrom.refl _ _) (KpX.refl _ _) HI.out ⟨rfl,HP.out⟩
   case body=>
    rintro l3 b x a' V dd _ ⟨z,g⟩ ⟨rfl,hP⟩ cf;have ck:=g.row cj bi.out;have c3:=ck.cellv (i:=0) (v:=.func (.yield lb) #[] #[]) rfl;obtain⟨ci,cm,ao⟩:=hP;have ak:PxP lo (QS own q (.node rt ks)) (done++b) x V:=⟨ci,cm++Zj own (r+k.size) ((j+1:Nat):Int) (ks.drop (j+1)),by rw[<-Hd.out,Xz bj.out, <-ao];simp⟩
    have am:(done++b).length<(Tr.node rt ks).size:=by
     obtain⟨_,dg,h3⟩:=ak;have h4:=congrArg List.length h3;rw[Jv]at h4;simp at h4;simp;omega
    obtain⟨c4,be,ai,a9,hy,hR⟩:=HY.out _ x _ z ak am;have bp:(Instr.yield lb #[.int .i64 (x.to:Int),.slice x.A x.l.length x.cap]).run Tryz.prog V=.ok (.round lb c4 be ai a9) V:=hy;have HR:=Lv hR;have H2:=Lv g;clear hy hR z g ci ao ak am cf ck dd;gi_wp2_with fail
    refine⟨rfl,HR.out.mono ?_⟩;clear bp HR c3;rintro e V2 (⟨rfl,al,s⟩|⟨rfl,al,s⟩)
    ·have HF:Hid (KeepsFrom u.heap.size V V2/\KpX (λi=>X i\/i=u.heap.size+1) V V2/\J (done++(b++[x])) V2/\KpX X u V2):=⟨s.keeps b8.out,s.more (λ_ h=>.inl h),by rw[<-L4];exact al,H2.out.trans s⟩;clear al s;gi_wp2_with fail
     exact HF.out
    ·have HF:Hid (KeepsFrom u.heap.size V V2/\KpX (λi=>X i\/i=u.heap.size+1) V V2/\True/\Jx (done++(b++[x])) V2/\KpX X u V2):=⟨s.keeps b8.out,s.more (λ_ h=>.inl h),trivial,by rw[<-L4];exact al,H2.out.trans s⟩;clear al s;gi_wp2_with fail
     exact⟨HF.out.1,HF.out.2.1,rfl,HF.out.2.2.2⟩
   case stop=>
    rintro D c b V hD _ ⟨rfl,g,h3⟩ hK;have cg:(D::Ds).Nodup:=ND.2 ⟨λh=>by have:=ae.out.2 D h;omega,ae.out.1⟩
    have a0:∀E∈D::Ds,W.heap.size<=E/\V.heap[E]? =some (.deferred (some [])):=λE hE=>by
     rcases L6.1 hE with rfl|hE
     ·exact⟨by omega,hK⟩
     ·obtain⟨e1,e2,e3⟩:=ae.out.2 E hE;exact⟨e1,h3.block E _ (λhx=>by have:=HC.out.hX E hx;omega) e3⟩
    have c2:=Lv cg;have b9:=Lv a0;have H2:=Lv g;clear cg a0 g h3 hK hD;gi_wp2_with fail
    exact Xv (Jx (done++b)) W.heap.size (λV' E z g h3=>cp.out _ _ _ (some E) h3 (grownBy_putObj' _ _ _) (λr e=>by cases e;exact .inr ⟨z,_,g,rfl⟩)) (λV' h=>⟨_,results_none rfl _ _ _,⟨_,rfl⟩,.inr ⟨_,trivial,h⟩⟩) (D::Ds) V c2.out b9.out H2.out
   case done=>
    rintro D xs V hD bd ⟨z,g⟩ hK
    have HF:Hid (∀a',(∃u5 u6 u7 u8 bq br bs bt bu bv bw bx bz b0 b3 b4 b5 b7 a2 a3 a4 a5 a6 a7,a'={ tmps:=#[.func (.yield lb) #[] #[],.pointer (some ⟨ba,0,none⟩),.pointer (some ⟨bo,0,none⟩),.pointer (some ⟨bl,0,none⟩),.pointer (some ⟨W.heap.size,0,none⟩),u5,u6,u7,u8,.func (.yield lb) #[] #[],.int .i64 (q:Int),.slice oa own.length oc,.bool true,.bool false,.slice A l.length cap,.int .i64 (q:Int),.slice (some ka) N kc,.int .i64 (N:Int),.int .i64 ((j+1:Nat):Int),bq,br,bs,bt,bu,bv,bw,bx,bz,b0,b3,b4,b5,b7,a2,a3,a4,a5,a6,a7],defers:=(D::Ds).map AkV })->KK a' V):=λa' ha=>di.out _ _ (Handed.intro (N-(j+1)) (by omega) (dh.out _ _ _ ⟨j+1,done++xs,r+k.size,D::Ds,rfl,by omega,by
     show _=_
     rw[<-Hd.out,Xz bj.out,LW,bd,L4],dm,c1.out.trans g |> Hk.out.trans,z,⟨ND.2 ⟨λh=>by have:=ae.out.2 D h;omega,ae.out.1⟩,λE hE=>by
     rcases L6.1 hE with rfl|hE
     ·exact⟨by omega,hK⟩
     ·obtain⟨e1,e2,e3⟩:=ae.out.2 E hE
      exact⟨e1,g.block E _ (λhx=>by have:=HC.out.hX E hx;omega) e3⟩⟩,ha⟩))
    clear z g hK bd hD;have eb:(N:Int)<=2000:=by omega
    gi_wp2_with fail
    refine HF.out _ ?_
    repeat apply Exists.intro
    exact rfl
  ·refine Qg rfl rfl (λK2 d=>?_);refine Qr (.slice (some ⟨w5.heap.size,0,none⟩) 1 1) (Ja [(0,.tmp 27)] rfl (Kl (cells:=#[.int .i64 (j:Int)]) Tryz.underlying22 AgD (by decide) (by decide) (by kernel_rfl) w5)) ?_;have rg:=Z5 w5 [.int .i64 (j:Int)] 3;have b6:=(Below.refl w5.heap.size w5).alloc (Nat.le_refl _) (.cells #[.int .i64 (j:Int)] 3);refine d _ _ ?_;clear d K2;simp only[Act.put,Qa,Qb,Qc];generalize w5.alloc (.cells #[.int .i64 (j:Int)] 3)=w6 at rg b6|-;obtain⟨gg,cc⟩:∃gg,gg=w5.heap.size:=⟨_,rfl⟩;rw[<-cc]at rg|-;clear cc;have bb:=hS.kx (KpX.of_below b6);refine⟨bb,?_⟩;(refine wpAnyH_all (rs:=[3]) (by kernel_rfl) (by simp) (λi hi=>?_);obtain rfl:i=3:=by simpa using hi);refine Qg rfl rfl (λK2 d=>?_);refine Qm 281 #[.slice oa own.length oc] (w1:=w6) (by go_simp) ((Ab3 oa oc own w6 bb.ho bb.hon (by have:=ay.out;omega)).mono ?_);rintro e w7 ⟨v6,rfl,bc,bk⟩;refine⟨_,rfl,?_⟩;refine d _ _ ?_;clear d K2;simp only[Act.put,Qa,Qb,Qc];have y:=U6 bc b6.size;replace rg:=rg.go bk;have ah:Below w5.heap.size w5 w7:=b6.trans (bk.mono (by have:=b6.size;omega));refine⟨hS.kx (KpX.of_below ah),?_⟩;have bm:=ay.out;obtain⟨v8,w8,ap,ac,cd,_⟩:=Zq (P:=Tryz.prog) 22 3 (.int .i64 0) 1 8 Tryz.underlying22 Ju rfl (by decide) (by decide) y ah.size rg (m:=1) (cap:=1) rfl (KF [(j:Int)]) (by simp) (by omega);have af:=QJ ah y cd ah.size (Nat.le_refl _);rw[show Qj own++[Value.int .i64 (j:Int)]=Qj (own++[(j:Int)]) by simp[Qj]]at ac;obtain⟨aq,ar,rfl,ch,_,a1,an⟩:=U8 ac;have ce:own.length+1=(own++[(j:Int)]).length:=by simp
   rw[ce]at ap;have az:=Lv ap;clear ce bm ap y ac cd rg;(refine wpAnyH_all (rs:=[6]) (by kernel_rfl) (by simp) (λi hi=>?_);obtain rfl:i=6:=by simpa using hi);refine Qg rfl rfl (λK2 d=>?_);refine Qr _ (QF rfl az.out) ?_;refine d _ _ ?_;clear d K2 az;simp only[Act.put,Qa,Qb,Qc];have ag:=hS.kx (KpX.of_below af);refine⟨ag,?_⟩;(refine wpAnyH_all (rs:=[7]) (by kernel_rfl) (by simp) (λi hi=>?_);obtain rfl:i=7:=by simpa using hi);refine Qg rfl rfl (λK2 d=>?_);refine Qm 267 #[.slice A l.length cap,.int .i64 (r:Int),.slice aq (own++[(j:Int)]).length ar] (w1:=w8) (by go_simp) ((YP A cap l r aq ar (own++[(j:Int)]) w8).mono ?_);rintro e u ⟨av,au,aw,rfl,cn,cl,co,c6,c5,c7,aj⟩;refine⟨_,rfl,?_⟩;refine d _ _ ?_;clear d K2;simp only[Act.put,Qa,Qb,Qc];have aa:=ag.kx (KpX.of_below aj);refine⟨aa,?_⟩;refine wpAnyH_done (by kernel_rfl) ?_ _;have ax:KpX X wr u:=KpX.of_below (ab.trans (af.mono ab.size |>.trans (aj.mono (by have:=af.size;have:=ab.size;omega))));have cj:=ax.row ct bi.out;have h9:J done u:=QI HJ.out hj (ab.trans ((af.mono ab.size).trans (aj.mono (by have:=af.size;have:=ab.size;omega))));clear ct hj;have ca:PathsC lo A cap l X au aw av aq ar (own++[(j:Int)]) r u:=⟨aa.hr,aa.hA,cn,cl,co,λh=>by have:=ag.hX _ h;omega,λh=>by have:=ag.hX _ h;omega,λh=>by have:=ag.hX _ h;omega,ch.go aj,λ_ ad e h=>by have:=an ad e;have:=hS.hX _ h;omega,λe=>by have:=a1 e;omega,aa.hX,λad e=>by have:=an ad e;have:=hS.hls;omega,aa.hls⟩;have cb:∀i,X i->i<u.heap.size:=aa.hX;have cy:=Lv ca;have c1:=Lv ax;have b8:=Lv cb
   have ae:Hid (Ds.Nodup/\∀D∈Ds,W.heap.size<=D/\D<u.heap.size/\u.heap[D]? =some (.deferred (some []))):=⟨bh.out.1,λD hD=>by
    obtain⟨e1,e2⟩:=bh.out.2 D hD
    have e3:=ax.block D _ (λhx=>by have:=HC.out.hX D hx;omega) e2
    exact⟨e1,(Lt.1 e3).1,e3⟩⟩
   clear hS bb ag aa ab af aj ah cn cl co c6 c5 c7 ch a1 an ca ax cb bg;refine AcA ?_;gi_wp2_with fail
   have db:=Tr.kid_lt bj.out (x:=rt);have c0:=Lv (dk.out k r (own++[(j:Int)]) (by have:=Hn.out;omega) (by have:=ay.out;simp;omega) cu.out.1 lo X au aw av aq ar u cy.out);clear db;have s9:W.heap.size<u.heap.size:=cj.lt;have cz:Hid (J done u/\KpX X u u):=⟨h9,KpX.refl _ _⟩;clear h9
   refine YU (gf:=280) (lb:=#[.pointer (some ⟨au,0,none⟩),.pointer (some ⟨aw,0,none⟩),.pointer (some ⟨av,0,none⟩)]) rfl (enters_of Tryz.func280 (by kernel_rfl) rfl) c0.out (λr h=>h.elim)
    (λh k=>h.trans k) (λV o o' ho hc=>⟨λi p hx hp=>by rw[World.putObj_heap_other (λe=>hx (.inr e))];exact hp,by simp⟩) (World.grownBy.refl _ _) (λ_=>rfl)
    (λb V=>J (done++b) V/\KpX X u V) (λc b V=>c=.ret/\Jx (done++b) V/\KpX X u V) (.inl trivial) ?hI ?hIx (by rw[LT];exact cz.out)
    (λb x a' V=>a'={ tmps:=#[.func (.yield lb) #[] #[],.pointer (some ⟨ba,0,none⟩),.pointer (some ⟨bo,0,none⟩),.pointer (some ⟨bl,0,none⟩),.pointer (some ⟨W.heap.size,0,none⟩),.int .i64 (j:Int),.int .i64 (r:Int),.int .i64 (x.to:Int),.slice x.A x.l.length x.cap,.func (.yield lb) #[] #[],.int .i64 (q:Int),.slice oa own.length oc,.bool true,.bool false,.slice A l.length cap,.int .i64 (q:Int),.slice (some ka) N kc,.int .i64 (N:Int),.int .i64 (j:Int),.bool true,.int .i64 (j:Int),.pointer (some (ka.add j)),.int .i64 (r:Int),.slice A l.length cap,.int .i64 (r:Int),.slice oa own.length oc,v6,.int .i64 (j:Int),.slice (some ⟨gg,0,none⟩) 1 1,.slice aq (own.length+1) ar,.func (.func 280) #[] #[.pointer (some ⟨au,0,none⟩),.pointer (some ⟨aw,0,none⟩),.pointer (some ⟨av,0,none⟩)],.int .i64 (x.to:Int),.slice x.A x.l.length x.cap,a2,a3,a4,a5,a6,a7],defers:=[] }/\PxP lo (QS (own++[(j:Int)]) r k) b x V) ?hAx ?assign ?body ?done ?stop
   case hI=>
    rintro b V V' row ⟨z,g⟩ hg hr;refine⟨HJ.out _ _ _ row z hg (λi e=>.inr ?_),g.grown hg (λi e=>?_)⟩
    ·rcases hr i e with h|⟨h,o⟩
     ·exact h.elim
     ·exact⟨by omega,o⟩
    ·rcases hr i e with h|⟨h,o⟩
     ·exact h.elim
     ·exact h
   case hIx=>
    rintro c b V V' row ⟨z,g,h3⟩ hg hr;refine⟨z,cp.out _ _ _ row g hg (λi e=>.inr ?_),h3.grown hg (λi e=>?_)⟩
    ·rcases hr i e with h|⟨h,o⟩
     ·exact h.elim
     ·exact⟨by omega,o⟩
    ·rcases hr i e with h|⟨h,o⟩
     ·exact h.elim
     ·exact h
   case hAx=>
    rintro b x a' _ V V' row ⟨z,⟨g,h4⟩,h3⟩ hg hr;refine⟨z,⟨⟨g.rd.grown hg (λi e=>?_),g.nil,g.len⟩,h4⟩,h3⟩;rcases hr i e with h|⟨h,o⟩
    ·exact h.elim
    ·exact o
   case assign=>
    rintro l3 b x V K hI hP hK;have HK:=Lv hK;have HI:=Lv hI;have HP:=Lv hP;clear hK hI hP;unfold PtX.enc;gi_wp2_with fail
    exact HK.out _ _ (KeepsFrom.refl _ _) (KpX.refl _ _) HI.out ⟨rfl,HP.out⟩
   case body=>
    rintro l3 b x a' V dd _ ⟨z,g⟩ ⟨rfl,hP⟩ cf;have ck:=g.row cj bi.out;have c3:=ck.cellv (i:=0) (v:=.func (.yield lb) #[] #[]) rfl;obtain⟨ci,cm,ao⟩:=hP;have ak:PxP lo (QS own q (.node rt ks)) (done++b) x V:=⟨ci,cm++Zj own (r+k.size) ((j+1:Nat):Int) (ks.drop (j+1)),by rw[<-Hd.out,Xz bj.out, <-ao];simp⟩
    have am:(done++b).length<(Tr.node rt ks).size:=by
     obtain⟨_,dg,h3⟩:=ak;have h4:=congrArg List.length h3;rw[Jv]at h4;simp at h4;simp;omega
    obtain⟨c4,be,ai,a9,hy,hR⟩:=HY.out _ x _ z ak am;have bp:(Instr.yield lb #[.int .i64 (x.to:Int),.slice x.A x.l.length x.cap]).run Tryz.prog V=.ok (.round lb c4 be ai a9) V:=hy;have HR:=Lv hR;have H2:=Lv g;clear hy hR z g ci ao ak am cf ck dd;gi_wp2_with fail
    refine⟨rfl,HR.out.mono ?_⟩;clear bp HR c3;rintro e V2 (⟨rfl,al,s⟩|⟨rfl,al,s⟩)
    ·have HF:Hid (KeepsFrom u.heap.size V V2/\KpX (λi=>X i\/i=u.heap.size+1) V V2/\J (done++(b++[x])) V2/\KpX X u V2):=⟨s.keeps b8.out,s.more (λ_ h=>.inl h),by rw[<-L4];exact al,H2.out.trans s⟩;clear al s;gi_wp2_with fail
     exact HF.out
    ·have HF:Hid (KeepsFrom u.heap.size V V2/\KpX (λi=>X i\/i=u.heap.size+1) V V2/\True/\Jx (done++(b++[x])) V2/\KpX X u V2):=⟨s.keeps b8.out,s.more (λ_ h=>.inl h),trivial,by rw[<-L4];exact al,H2.out.trans s⟩;clear al s;gi_wp2_with fail
     exact⟨HF.out.1,HF.out.2.1,rfl,HF.out.2.2.2⟩
   case stop=>
    rintro D c b V hD _ ⟨rfl,g,h3⟩ hK;have cg:(D::Ds).Nodup:=ND.2 ⟨λh=>by have:=ae.out.2 D h;omega,ae.out.1⟩
    have a0:∀E∈D::Ds,W.heap.size<=E/\V.heap[E]? =some (.deferred (some [])):=λE hE=>by
     rcases L6.1 hE with rfl|hE
     ·exact⟨by omega,hK⟩
     ·obtain⟨e1,e2,e3⟩:=ae.out.2 E hE;exact⟨e1,h3.block E _ (λhx=>by have:=HC.out.hX E hx;omega) e3⟩
    have c2:=Lv cg;have b9:=Lv a0;have H2:=Lv g;clear cg a0 g h3 hK hD;gi_wp2_with fail
    exact Xv (Jx (done++b)) W.heap.size (λV' E z g h3=>cp.out _ _ _ (some E) h3 (grownBy_putObj' _ _ _) (λr e=>by cases e;exact .inr ⟨z,_,g,rfl⟩)) (λV' h=>⟨_,results_none rfl _ _ _,⟨_,rfl⟩,.inr ⟨_,trivial,h⟩⟩) (D::Ds) V c2.out b9.out H2.out
   case done=>
    rintro D xs V hD bd ⟨z,g⟩ hK
    have HF:Hid (∀a',(∃u5 u6 u7 u8 bq br bs bt bu bv bw bx bz b0 b3 b4 b5 b7 a2 a3 a4 a5 a6 a7,a'={ tmps:=#[.func (.yield lb) #[] #[],.pointer (some ⟨ba,0,none⟩),.pointer (some ⟨bo,0,none⟩),.pointer (some ⟨bl,0,none⟩),.pointer (some ⟨W.heap.size,0,none⟩),u5,u6,u7,u8,.func (.yield lb) #[] #[],.int .i64 (q:Int),.slice oa own.length oc,.bool true,.bool false,.slice A l.length cap,.int .i64 (q:Int),.slice (some ka) N kc,.int .i64 (N:Int),.int .i64 ((j+1:Nat):Int),bq,br,bs,bt,bu,bv,bw,bx,bz,b0,b3,b4,b5,b7,a2,a3,a4,a5,a6,a7],defers:=(D::Ds).map AkV })->KK a' V):=λa' ha=>di.out _ _ (Handed.intro (N-(j+1)) (by omega) (dh.out _ _ _ ⟨j+1,done++xs,r+k.size,D::Ds,rfl,by omega,by
     show _=_
     rw[<-Hd.out,Xz bj.out,LW,bd,L4],dm,c1.out.trans g |> Hk.out.trans,z,⟨ND.2 ⟨λh=>by have:=ae.out.2 D h;omega,ae.out.1⟩,λE hE=>by
     rcases L6.1 hE with rfl|hE
     ·exact⟨by omega,hK⟩
     ·obtain⟨e1,e2,e3⟩:=ae.out.2 E hE
      exact⟨e1,g.block E _ (λhx=>by have:=HC.out.hX E hx;omega) e3⟩⟩,ha⟩))
    clear z g hK bd hD;have eb:(N:Int)<=2000:=by omega
    gi_wp2_with fail
    refine HF.out _ ?_
    repeat apply Exists.intro
    exact rfl
end Go.Proofs.YtgnmkiafeplbpaaGreatDoor
