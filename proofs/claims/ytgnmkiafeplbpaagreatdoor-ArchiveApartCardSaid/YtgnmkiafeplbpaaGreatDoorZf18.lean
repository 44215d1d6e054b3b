/- Lemmas for ArAll. -/
import Derived.Test.YtgnmkiafeplbpaaGreatDoorZf1
import Derived.Test.YtgnmkiafeplbpaaGreatDoorZf17
import Derived.Test.YtgnmkiafeplbpaaGreatDoorZf10
import Derived.Test.YtgnmkiafeplbpaaGreatDoorZf14
import Derived.Test.YtgnmkiafeplbpaaGreatDoorZf7
import Derived.Test.YtgnmkiafeplbpaaGreatDoorZf4
import Derived.Defers
import Derived.Laws.Pointers
import Derived.Laws.LoneSync
import Derived.RegionTactic
import Derived.RegionCalls
set_option linter.unusedVariables false
set_option linter.unusedSimpArgs false
set_option maxRecDepth 100000
set_option maxHeartbeats 16000000
namespace Go.Proofs.YtgnmkiafeplbpaaGreatDoor
open Go.RowKit Go.Deep
attribute [local go_sem] Oper.semAt_some
theorem AdD{F:Fence}{n:Nat}{P:Program}{ops:Array Oper}{rest:List Oper}{o:Oper}{a:Act}{w w1:World}{Q:Exit->Act->World->Prop}(hgd:o.guard=none)(hd:∀c,o.op≠.defer c)(ha:o.about P w a.eval=none)(v:Value)(hv:(execOp a.eval o).run P w=.ok (.value v) w1)(h:wpListIn F n P ops Q rest (a.put o.dst v) w1):wpListIn F n P ops Q (o::rest) a w:=
 wpListIn_plain hgd λK hK=>by
  unfold Oper.wpIn
  refine⟨λf hf=>(by rw[ha]at hf;cases hf),?_⟩
  rw[Oper.semAt_plain _ _ _ hd,hv]
  exact hK _ _ h
theorem AiK{F:Fence}{n:Nat}{P:Program}{ops:Array Oper}{rest:List Oper}{o:Oper}{a:Act}{w:World}{Q:Exit->Act->World->Prop}(s x:Operand)(t u:TypeId)(_:o.op=.call { callee:=.builtin .append,args:=#[s,x],argTypes:=#[t,u] })(h:Stop (wpListIn F n P ops Q (o::rest) a w) id):wpListIn F n P ops Q (o::rest) a w:=h.out
theorem Aak{F:Fence}{n:Nat}{P:Program}{ops:Array Oper}{rest:List Oper}{o:Oper}{a:Act}{w:World}{Q:Exit->Act->World->Prop}(ty:TypeId)(p x:Operand)(_:o.op=.store ty p x)(h:Stop (wpListIn F n P ops Q (o::rest) a w) id):wpListIn F n P ops Q (o::rest) a w:=h.out
def Ob (bk:Nat)(W:World)(k:Nat):Prop:=∃a n c,W.cell? ⟨bk,6,none⟩=some (.slice (some a) n c)/\a.block=k
structure KpB (bk:Nat)(L:Nat->Prop)(A B:World):Prop where
 block:∀k o,k≠bk->¬L k->¬Ob bk A k->A.heap[k]? =some o->B.heap[k]? =some o
 size:A.heap.size<=B.heap.size
 own:∀k,Ob bk B k->Ob bk A k\/A.heap.size<=k
 lt:(∀k,Ob bk A k->k<A.heap.size)->∀k,Ob bk B k->k<B.heap.size
 cell:∀j,j≠6->B.cell? ⟨bk,j,none⟩=A.cell? ⟨bk,j,none⟩
theorem KpB.trans{bk:Nat}{L:Nat->Prop}{A B C:World}(h:KpB bk L A B)(k:KpB bk L B C):KpB bk L A C:=
 ⟨λi o h1 h2 h3 h4=>k.block i o h1 h2 (λho=>(h.own i ho).elim h3 λhs=>by have:=(Lt.1 h4).1;omega) (h.block i o h1 h2 h3 h4),Lj h.size k.size,
  λi ho=>(k.own i ho).elim (λh1=>h.own i h1) λhs=>.inr (Lj h.size hs),λhl=>k.lt (h.lt hl),λj hj=>(k.cell j hj).trans (h.cell j hj)⟩
theorem KpB.refl (bk:Nat)(L:Nat->Prop)(A:World):KpB bk L A A:=⟨λ_ _ _ _ _ h=>h,Nat.le_refl _,λ_ h=>.inl h,λh=>h,λ_ _=>rfl⟩
theorem Ud{bk:Nat}{A B:World}(h:B.cell? ⟨bk,6,none⟩=A.cell? ⟨bk,6,none⟩){k:Nat}(ho:Ob bk B k):Ob bk A k:=by
 obtain⟨a,n,c,e,b⟩:=ho;exact⟨a,n,c,by rw[<-h];exact e,b⟩
theorem KpB.of_below{bk:Nat}{L:Nat->Prop}{A B:World}(hb:bk<A.heap.size)(h:Below A.heap.size A B):KpB bk L A B:=by
 have b:∀j,B.cell? ⟨bk,j,none⟩=A.cell? ⟨bk,j,none⟩:=λj=>World.cell?_of_block (h.block bk hb);exact⟨λk o _ _ _ a=>by rw[h.block k (Lt.1 a).1];exact a,h.size,λk a=>.inl (Ud (b 6) a),λc k a=>Lg (c k (Ud (b 6) a)) h.size,λj _=>b j⟩
structure Safe (bk:Nat)(L:Nat->Prop)(W:World)(k:Nat):Prop where
 nb:k≠bk
 nl:¬L k
 no:¬Ob bk W k
 lt:k<W.heap.size
theorem KpB.safe{bk:Nat}{L:Nat->Prop}{A B:World}(h:KpB bk L A B){k:Nat}(s:Safe bk L A k):Safe bk L B k:=
 ⟨s.nb,s.nl,λho=>(h.own k ho).elim s.no λhs=>by have:=s.lt;omega,Lg s.lt h.size⟩
theorem KpB.row{bk:Nat}{L:Nat->Prop}{A B:World}(h:KpB bk L A B){g:Nat}{t:TypeId}{cs:Array Value}(hr:Row A g t cs)(s:Safe bk L A g):Row B g t cs:=h.block g _ s.nb s.nl s.no hr
theorem KpB.rd{bk:Nat}{L:Nat->Prop}{A B:World}(h:KpB bk L A B){ad:Option Addr}{xs:List Value}(hr:Rd A ad xs)(hx:xs≠[]->∀a,ad=some a->Safe bk L A a.block):Rd B ad xs:=λj u hj=>by
 obtain⟨a,e,i⟩:=hr j u hj;have d:xs≠[]:=λe=>by rw[e]at hj;simp at hj
 have c:=World.block_lt_of_cell? _ _ i;have b:(a.add j).block=a.block:=JU a j;rw[b]at c;have s:=hx d a e;have g:A.heap[a.block]? =some A.heap[a.block]:=N9 c;have k:=h.block _ _ s.nb s.nl s.no g;exact⟨a,e,(World.cell?_of_block (by rw[b];exact k.trans g.symm)).trans i⟩
structure EachC (p:PgV)(bk bb:Nat)(L:Nat->Prop)(W:World):Prop where
 rb:Row W bb 164 #[.pointer (some ⟨bk,0,none⟩)]
 sb:Safe bk L W bb
 cb:W.cell? ⟨bk,2,none⟩=some (.slice p.ba p.body.length p.bcap)
 hr:Rd W p.ba (p.body.flatMap Nd.cells)
 sA:p.body.flatMap Nd.cells≠[]->∀ad,p.ba=some ad->Safe bk L W ad.block
 ltk:∀k,Ob bk W k->k<W.heap.size
 hL:∀k,L k->k<W.heap.size
 hbk:bk<W.heap.size
theorem EachC.kx{p:PgV}{bk bb:Nat}{L:Nat->Prop}{W W':World}(h:EachC p bk bb L W)(k:KpB bk L W W'):EachC p bk bb L W':=
 ⟨k.row h.rb h.sb,k.safe h.sb,(k.cell 2 (by omega)).trans h.cb,k.rd h.hr h.sA,λhne ad e=>k.safe (h.sA hne ad e),k.lt h.ltk,λi hi=>Lg (h.hL i hi) k.size,Lg h.hbk k.size⟩
theorem EachC.fresh{p:PgV}{bk bb:Nat}{L:Nat->Prop}{W W':World}(h:EachC p bk bb L W)(b:Below W.heap.size W W'){k:Nat}(h1:W.heap.size<=k)(h2:k<W'.heap.size):Safe bk L W' k:=
 ⟨by have:=h.hbk;omega,λhl=>by have:=h.hL k hl;omega,λho=>by
  have:=h.ltk k (Ud (World.cell?_of_block (b.block bk h.hbk)) ho);omega,h2⟩
theorem EachC.add{p:PgV}{bk bb:Nat}{w W:World}{lb:Nat}(h:EachC p bk bb (λ_=>False) w)(b:Below w.heap.size w W)(h1:w.heap.size<=lb)(h2:lb<W.heap.size):EachC p bk bb (λi=>i=lb) W:=by
 have k:=h.kx (KpB.of_below h.hbk b);have d:∀i,i<w.heap.size->Safe bk (λ_=>False) W i->Safe bk (λi=>i=lb) W i:=λi g s=>⟨s.nb,by omega,s.no,s.lt⟩;exact⟨k.rb,d _ h.sb.lt k.sb,k.cb,k.hr,λa c e=>d _ (h.sA a c e).lt (k.sA a c e),k.ltk,λi g=>by omega,k.hbk⟩
structure DlT (W:World)(x:DlV):Prop where
 ok:DlOk W x
 ib:IntB W x.A
 nil:x.A=none->x.d.path=[]
def DlP (full:List Dl)(pre:List DlV)(x:DlV)(W:World):Prop:=DlT W x/\∃rest,pre.map DlV.d++x.d::rest=full
def mkD (π:List Int)(c:Int×Int):Dl:=⟨π,c.1,c.2⟩
def VD (l:List Nd)(t:Tr)(q:Nat):List Dl:=((QS [] 0 t).take q).flatMap λe=>(Je l e.1).map (mkD e.2)
theorem AeY (l:List Nd)(t:Tr){q:Nat}(h:t.size<=q):VD l t q=KC l t:=by
 unfold VD KC;rw[Lm (by rw[Jv];exact h)];rfl
theorem En{l:List Nd}{t:Tr}{q:Nat}{π:List Int}(h:(QS [] 0 t)[q]? =some (q,π)):VD l t (q+1)=VD l t q++(Je l q).map (mkD π):=by
 unfold VD;rw[L5,h];simp
theorem Akp{l:List Nd}{t:Tr}{q:Nat}{π:List Int}(h:(QS [] 0 t)[q]? =some (q,π)):∃rest,VD l t q++(Je l q).map (mkD π)++rest=KC l t:=by
 rw[<-En h];refine⟨((QS [] 0 t).drop (q+1)).flatMap λe=>(Je l e.1).map (mkD e.2),?_⟩;unfold VD KC;rw[<-LM,LC];rfl
theorem UR (l:List Nd)(q:Nat){t:Tr}(hat:At l q t)(ha:¬Qy t.root<0):(Je l q).length<=100:=by
 rw[<-Aas hat ha];exact AiQ _ _
theorem AgV{l:List Nd}{t:Tr}{q:Nat}(hw:Whole l t)(hq:q<l.length):∃π k,(QS [] 0 t)[q]? =some (q,π)/\At l q k:=by
 obtain⟨e,d⟩:∃e,(QS [] 0 t)[q]? =some e:=⟨_,Ld (by rw[Jv,hw.size];exact hq)⟩;have c:=Ed t [] 0 q e d;rw[LS]at c;obtain⟨k,h⟩:=(KG t [] 0 e.1 e.2).1 (by simpa using Li d);have g:=AaE hw.hat h;obtain⟨a,b⟩:=e;simp only at c g;subst c;exact⟨b,k,d,g⟩
mutual
theorem Va:∀(t:Tr) (own:List Int) (q:Nat) (e:Nat×List Int),e∈QS own q t->e.2.length+1<=own.length+t.size
 | .node x ks,own,q,e,h=>by
  have hs:(Tr.node x ks).size=(QM ks).length+1:=by rw[Tr.size,Tr.flat,Le]
  rw[QS]at h
  rcases L6.1 h with h|h
  ·rw[h,hs];show own.length+1<=_;omega
  ·have:=U9 ks own (q+1) 0 e h;omega
theorem U9:∀(ts:List Tr) (own:List Int) (q:Nat) (i:Int) (e:Nat×List Int),e∈Zj own q i ts->e.2.length+1<=own.length+1+(QM ts).length
 |[],own,q,i,e,h=>by simp[Zj]at h
 |t::ts,own,q,i,e,h=>by
  have hl:(QM (t::ts)).length=t.size+(QM ts).length:=by rw[QM,La];rfl
  rw[Zj]at h
  rcases LG.1 h with h|h
  ·have:=Va t _ _ e h;simp at this;omega
  ·have:=U9 ts own _ _ e h;omega
end
theorem AmD{W:World}{A:Option Addr}{l:List (Int×Int)}(hr:Rd W A (l.flatMap chC)){k:Nat}{x:Int×Int}(hx:l[k]? =some x):∃ad,A=some ad/\∀(j:Nat) (u:Value),(chC x)[j]? =some u->W.cell? ((ad.add (k*3)).add j)=some u:=
 Agz (c:=chC) (sz:=3) (λ_=>rfl) (by decide) hr hx
theorem AfF (p:PgV)(t:Tr)(hf:Fine p t)(hlc:p.body.length<=p.bcap)(hcm:p.bcap<=maxLen)(bk bb:Nat)(w:World)(hC:EachC p bk bb (λ_=>False) w):
 Aae Tryz.prog 257 #[.pointer (some ⟨bb,0,none⟩)] (λx:DlV=>#[.agg x.cells]) (λ_=>False) (λlb=>KpB bk (λi=>i=lb)) (DlP (KC p.body t)) (λxs=>xs.map DlV.d=KC p.body t) (λ_=>True) (KC p.body t).length True w:=by
 intro lb J Jx W a5 ab _ hJ co hY h0;have bh:Below w.heap.size w W:=⟨ab.os,ab.tape,ab.output,ab.size,λk hk=>ab.block k hk (by simp)⟩;have af:=hC.add bh a5.1 a5.2;clear hC a5 bh ab w;have a2:∀b x W1,J b W1->DlP (KC p.body t) b x W1->b.length<(KC p.body t).length->YieldAt Fence.wide 0 Tryz.prog lb #[.agg x.cells] W1 λe W'=>(e=.returned (.bool true)/\J (b++[x]) W'/\KpB bk (λi=>i=lb) W1 W')\/(e=.returned (.bool false)/\Jx (b++[x]) W'/\KpB bk (λi=>i=lb) W1 W'):=hY;clear hY;generalize (λi=>i=lb)=L at af a2;obtain⟨N,hN⟩:∃N,N=p.body.length:=⟨_,rfl⟩;have cp:(N:Int)<=200:=by have:=hf.len;omega
 have HN:=Lv hN;have HC:=Lv af;have HJ:=Lv hJ;have HY:=Lv a2;have Hf:=Lv hf;have b8:=Lv hlc;have bz:=Lv hcm;have c0:=af.rb.cellv (i:=0) (v:=.pointer (some ⟨bk,0,none⟩)) rfl;have c1:=af.cb;rw[<-hN]at c1;clear hN af hJ a2 hf hlc hcm;refine callsIn_of_wp Tryz.func257 rfl trivial ?_ rfl;simp only[Tryz.ntmps257,Ly,Le,Ll,Nat.reduceAdd,Nat.reduceSub,Ln,Lp,Lz,LD,Lu,Lk];gi_wp2_with fail
 gi_loopw [14] (λi wr=>∃(q:Nat) (b:List DlV),i=.int .i64 (q:Int)/\q<=N/\Hid (b.map DlV.d=VD p.body t q)/\Hid (EachC p bk bb L wr)/\J b wr) (λi _=>N-(intOf i).toNat)
 case atStart=>exact⟨0,[],by simp,Nat.zero_le _,Lv (by simp[VD]),HC,h0⟩
 case round=>
  clear h0 c0 c1 HC;obtain⟨q,b,rfl,cu,j,HC,hj⟩:=hrel;by_cases cl:q<N;rotate_left
  ·obtain rfl:q=N:=by omega
   gi_wp2_with fail
   go_end0
   refine⟨⟨_,rfl⟩,.inl ⟨_,?_,hj⟩⟩;rw[j.out];exact AeY _ _ (by have:=Hf.out.good.size;have:=HN.out;omega)
  obtain⟨π,tq,a6,n⟩:=AgV Hf.out.good.whole (q:=q) (by have:=HN.out;omega);have z:¬Qy tq.root<0:=Hf.out.ar _ (Li n.root);have a0:=Lv (λW h=>Af9 p.ba p.bcap p.body t q π W Hf.out.good.hat Hf.out.good.size a6 h (by have:=Hf.out.len;omega));have aj:=Lv (λW h=>AdW p.ba p.bcap p.body q tq W n h (by have:=Hf.out.len;omega) b8.out bz.out (Akn z).1 (Akn z).2 (AjC n z));rw[Aas n z, <-HN.out]at aj;rw[<-HN.out]at a0;have a1:=Lv a6;have bl:=UR p.body q n z;obtain⟨y,a4⟩:∃y,y=Je p.body q:=⟨_,rfl⟩;rw[<-a4]at aj bl;have bd:=Lv a4;have ct:(q:Int)<(N:Int):=by omega
  have c0:=HC.out.rb.cellv (i:=0) (v:=.pointer (some ⟨bk,0,none⟩)) rfl;have c1:=HC.out.cb;rw[<-HN.out]at c1;clear a6 n z a4 cl;gi_wp2_with fail
  refine⟨trivial,rfl,(callsIn_wide.2 (a0.out wr HC.out.hr)).mono ?_⟩;rintro e w1 ⟨PA,pc,rfl,a7,br,b1,bq⟩;have s:=Lv (HC.out.kx (KpB.of_below HC.out.hbk b1));replace hj:=QI HJ.out hj b1;have bu:Qj π≠[]->∀o,PA=some o->Safe bk L w1 o.block:=λag o e=>HC.out.fresh b1 (bq o e) (X3 a7 ag e)
  have c0:=s.out.rb.cellv (i:=0) (v:=.pointer (some ⟨bk,0,none⟩)) rfl;have c1:=s.out.cb;rw[<-HN.out]at c1;clear b1 bq a0 HC;gi_wp2_with fail
  refine⟨trivial,rfl,(callsIn_wide.2 (aj.out w1 s.out.hr)).mono ?_⟩;rintro e w2 ⟨cv,rfl,g,b2⟩;obtain⟨CA,cc,rfl⟩:=JQ g;have a3:Rd w2 CA (y.flatMap chC):=E6 g;have bi:∀o,CA=some o->w1.heap.size<=o.block:=λo e=>Af6 g (by rw[e];rfl)
  have bt:y.flatMap chC≠[]->∀o,CA=some o->Safe bk L w2 o.block:=λag o e=>s.out.fresh b2 (bi o e) (X3 a3 ag e)
  have ax:Qj π≠[]->∀o,PA=some o->Safe bk L w2 o.block:=λag o e=>(KpB.of_below s.out.hbk b2).safe (bu ag o e)
  have az:=Lv (s.out.kx (KpB.of_below s.out.hbk b2));have b0:=Lv a3;have cf:=Lv bt;have cg:=Lv ax;have ce:=Lv (a7.go b2);have cd:=Lv br;have cq:(y.length:Int)<=100:=by omega
  replace hj:=QI HJ.out hj b2;clear g a3 bi bt ax bu a7 br b2 s c0 c1 aj;gi_wp2_with fail
  gi_loopw [35] (λi wr=>∃(k:Nat) (b:List DlV),i=.int .i64 (k:Int)/\k<=y.length/\Hid (b.map DlV.d=VD p.body t q++(y.take k).map (mkD π))/\Hid (KpB bk L w2 wr)/\J b wr) (λi _=>y.length-(intOf i).toNat)
  case atStart=>exact⟨0,b,by simp,Nat.zero_le _,Lv (by rw[j.out];simp),Lv (KpB.refl _ _ _),hj⟩
  case round=>
   clear hj;obtain⟨k,b,rfl,hk,j,ae,hj⟩:=hrel;by_cases ak:k<y.length;rotate_left
   ·obtain rfl:k=y.length:=by omega
    have b9:Hid (b.map DlV.d=VD p.body t (q+1)):=by
     show _=_;rw[j.out,LO,En a1.out,bd.out]
    have bx:=Lv (az.out.kx ae.out);clear j az;gi_wp2_with fail
    go_roundw
    case rel=>exact⟨q+1,b,by go_num,by omega,b9,bx,hj⟩
    case measure=>simp[intOf];omega
   obtain⟨c,hc⟩:∃c,y[k]? =some c:=⟨_,Ld ak⟩;have bs:=ae.out.rd b0.out cf.out;obtain⟨ca,ci,bj⟩:=AmD bs hc;subst ci;have bc:=Lv bj;have Hc:=Lv hc;have cr:(k:Int)<(y.length:Int):=by omega
   clear bs bj hc ak;gi_wp2_with (first| (refine Aak _ _ _ rfl ?_)| (refine ZW rfl 91 _ rfl (ca.add (k*3)) rfl [.slice none 0 0,.int .i64 c.1,.int .i64 c.2] _ bc.out Tryz.underlying91 rfl (by kernel_rfl) ?_))
   refine Stop.to ?_;obtain⟨D,hD⟩:∃D,D=wr.heap.size:=⟨_,rfl⟩;obtain⟨w3,al⟩:∃w3,w3=wr.alloc (.cells #[.slice none 0 0,.int .i64 0,.int .i64 0] 91):=⟨_,rfl⟩;have a9:Row w3 D 91 #[.slice none 0 0,.int .i64 0,.int .i64 0]:=by rw[al,hD];exact Row.new _ _ _
   have b3:Below wr.heap.size wr w3:=by rw[al];exact(Below.refl _ _).alloc (Nat.le_refl _) _
   rw[<-al, <-hD];have bg:wr.heap.size<=D:=LI hD.symm;clear al hD;refine Zz rfl 91 _ _ rfl D #[.slice none 0 0,.int .i64 c.1,.int .i64 c.2] rfl rfl 91 _ a9 (by kernel_rfl) rfl (by simp[Value.oneCell']) ?_;have ai:=a9.setRow #[.slice none 0 0,.int .i64 c.1,.int .i64 c.2];have b4:Below wr.heap.size wr (w3.setRow D #[.slice none 0 0,.int .i64 c.1,.int .i64 c.2]):=Ql b3 (ZY _ _ _) bg;generalize w3.setRow D #[.slice none 0 0,.int .i64 c.1,.int .i64 c.2]=w4 at ai b4|-;clear a9 b3 bc;have au:Rd w4 PA (Qj π):=(ae.out.rd ce.out cg.out).go b4;have hπ:π.length<=1000:=by have h9:π.length+1<=0+t.size:=Va t [] 0 _ (Li a1.out);have:=Hf.out.good.size;have:=Hf.out.len;omega
   obtain⟨v5,w5,aw,g,aa, -⟩:=Zq (P:=Tryz.prog) 22 3 (.int .i64 0) 1 8 Tryz.underlying22 Ju rfl (by decide) (by decide) (World.ownsRow_nil w4 w4.heap.size 3 1) (Nat.le_refl _) au (m:=π.length) (cap:=pc) (by rw[Xt,Nat.mul_one]) (KF π) (λe=>by rw[cd.out e];rfl) (by omega);have b5:Below w4.heap.size w4 w5:=⟨aa.os,aa.tape,aa.output,aa.size,λk hk=>aa.block k hk (by simp[Value.ownBlock])⟩;rw[LS,Lu]at g;obtain⟨u,ac,rfl,av,bp,aq,ah⟩:=U8 g;have ao:IntB w5 u:=AeL g rfl;have am:=ai.below b5 ai.lt;have l4:=ai.lt;have bf:=b4.trans (b5.mono b4.size);have an:=Lv aw;clear g aa aw au b5 ai;obtain⟨x,hx⟩:∃x:DlV,x=⟨u,ac,mkD π c⟩:=⟨_,rfl⟩;have bv:Row (w5.setCell ⟨D,0,none⟩ (.slice u π.length ac)) D 91 x.cells:=by rw[hx];exact am.set 0 _
   have o6:=Qu w5 D 0 (.slice u π.length ac);have c5:w5.cell? ⟨D,0,none⟩=some (.slice none 0 0):=am.cellv (i:=0) rfl;have f5:=am.free 0;have b6:Below wr.heap.size wr (w5.setCell ⟨D,0,none⟩ (.slice u π.length ac)):=Ql bf o6 bg;have bo:Qj π≠[]->∀a,u=some a->a.block≠D:=λ_ a e=>by have:=ah a e;omega
   have hT:DlT (w5.setCell ⟨D,0,none⟩ (.slice u π.length ac)) x:=by
    rw[hx];refine⟨⟨av.only o6 bo,by show π.length<=1000000;omega⟩,λa e=>?_,λe=>?_⟩
    ·obtain⟨ch,cm⟩:=ao a e;exact⟨ch,cm.only o6 (by have:=ah a e;omega)⟩
    ·show π=[];have h0:=aq e;exact L3 (by omega)
   have hP:DlP (KC p.body t) b x (w5.setCell ⟨D,0,none⟩ (.slice u π.length ac)):=by
    refine⟨hT,?_⟩;obtain⟨ay,a8⟩:=Akp (l:=p.body) a1.out;refine⟨(y.drop (k+1)).map (mkD π)++ay,?_⟩;obtain⟨ak,cj⟩:=Lf.1 Hc.out;rw[<-a8, <-bd.out,j.out,hx]
    conv=>rhs;rw[<-LC k y,LV ak,cj]
    simp
   have ap:b.length<(KC p.body t).length:=by
    obtain⟨_,ay,hr⟩:=hP;rw[<-hr];simp
   have bm:=QI HJ.out hj b6;obtain⟨fn,cn,bw,body,hy,hR⟩:=HY.out _ x _ bm hP ap;have HR:=Lv hR;have be:=Lv (ae.out.trans (KpB.of_below (by have:=az.out.hbk;have:=ae.out.size;omega) b6))
   have Hn:Hid ((b++[x]).map DlV.d=VD p.body t q++(y.take (k+1)).map (mkD π)):=by
    show _=_;rw[L5,Hc.out,LW,j.out,hx];simp
   clear hT hP ap bm hj hR b6 b4 bf o6 bo av bp aq ah ao am hx j Hc;gi_wp2_with (refine AiK _ _ _ _ rfl ?_);refine Stop.to ?_;refine AdD rfl (λc h=>by cases h) rfl _ (QF rfl an.out) ?_;gi_wp2_with (refine Kg rfl 91 _ rfl D rfl 91 x.cells (0,0) _ bv Tryz.underlying91 rfl (by kernel_rfl) ?_);refine⟨rfl,HR.out.mono ?_⟩;clear hy HR bv c5 f5 an;rintro e W' (⟨rfl,hj,bn⟩|⟨rfl,ck, -⟩);rotate_left
   ·gi_wp2_with fail
    refine bodyPost_ret (results_none rfl _ _ _) rfl ?_;exact⟨⟨_,rfl⟩,.inr ⟨_,trivial,ck⟩⟩
   have b7:=Lv (be.out.trans bn);clear be bn;gi_wp2_with fail
   go_roundw
   case rel=>exact⟨k+1,_,by go_num,by omega,Hn,b7,hj⟩
   case measure=>simp[intOf];omega
end Go.Proofs.YtgnmkiafeplbpaaGreatDoor
namespace Go.Proofs.YtgnmkiafeplbpaaGreatDoor
open Go.RowKit Go.Deep
theorem Vi (w:World):(callFunc 272 #[]).run Tryz.prog w=.ok (.value (.tuple #[])) w:=run_call_mark0 Tryz.func272 (by kernel_rfl) (by kernel_rfl) (by kernel_rfl) .disable (by kernel_rfl) w
theorem EJ (w:World):(callFunc 274 #[]).run Tryz.prog w=.ok (.value (.tuple #[])) w:=run_call_mark0 Tryz.func274 (by kernel_rfl) (by kernel_rfl) (by kernel_rfl) .enable (by kernel_rfl) w
theorem Ado (a:Addr)(w:World):(callFunc 275 #[.pointer (some a)]).run Tryz.prog w=.ok (.value (.tuple #[])) w:=run_call_marked Tryz.func275 (by kernel_rfl) (by kernel_rfl) (by kernel_rfl) .acquire (by kernel_rfl) a w
theorem Vj (a:Addr)(w:World):(callFunc 277 #[.pointer (some a)]).run Tryz.prog w=.ok (.value (.tuple #[])) w:=run_call_marked Tryz.func277 (by kernel_rfl) (by kernel_rfl) (by kernel_rfl) .releaseMerge (by kernel_rfl) a w
theorem YZ (a:Addr)(x:Value)(u:FrameMode)(w:World)(hc:w.cell? a=some x)(hz:w.frozen? a=false):
 CallsD Tryz.prog 256 #[.pointer (some a),.bool true] u w λe u' w'=>u'=u/\(e=.returned (.tuple #[])/\w'=w.drew.setCell a (.int .u32 1)):=by
 have b:w.drew.cell? a=some x:=by go_simp
 have c:w.drew.frozen? a=false:=by go_simp
 have d:=run_call_store (P:=Tryz.prog) Tryz.func265 (by kernel_rfl) (by kernel_rfl) (by kernel_rfl) (by kernel_rfl) (k:=.u32) (y:=1) b c;go_enter_d Tryz.func256,Tryz.ntmps256
 go_wp2
 go_region_calls
 all_goals(go_end0;exact⟨rfl,rfl⟩)
theorem AdA (a:Addr)(w:World)(hc:w.cell? a=some (.int .i32 1))(hz:w.frozen? a=false):
 Calls Tryz.prog 264 #[.pointer (some a)] w λe w'=>e=.returned (.tuple #[])/\w'=w.setCell a (.int .i32 0):=by
 have d:=Vi;have g:=EJ;have h:=Vj;have b:=run_call_add (P:=Tryz.prog) Tryz.func278 (by kernel_rfl) (by kernel_rfl) (by kernel_rfl) .i32 (by kernel_rfl) (y:= -1) (s:=0) hc hz (by simp[go_sem];rfl);have c:=run_convert_to_unsafe (P:=Tryz.prog) (src:=334) (dst:=141) Tryz.underlying334 Tryz.underlying141 (by kernel_rfl) hc;go_enter Tryz.func264,Tryz.ntmps264
 go_wp2
 first|go_end0|go_ret
 exact⟨rfl,rfl⟩
theorem AfY (a:Addr)(w:World)(hc:w.cell? a=some (.int .i32 0))(hz:w.frozen? a=false):
 Calls Tryz.prog 263 #[.pointer (some a)] w λe w'=>e=.returned (.tuple #[])/\w'=w.setCell a (.int .i32 1):=by
 have h:=Vi;have i:=EJ;have g:=Ado;have c:=run_call_cas_hit (P:=Tryz.prog) Tryz.func273 (by kernel_rfl) (by kernel_rfl) (by kernel_rfl) .i32 (by kernel_rfl) (y:=1) hc hz;have b:(w.setCell a (.int .i32 1)).cell? a=some (.int .i32 1):=World.cell?_setCell_same w a _ hc;have d:=run_convert_to_unsafe (P:=Tryz.prog) (src:=334) (dst:=141) Tryz.underlying334 Tryz.underlying141 (by kernel_rfl) b;go_enter Tryz.func263,Tryz.ntmps263
 go_wp2
 first|go_end0| (simp only[Exit.inBlock,Exit.then];refine bodyPost_ret (results_none rfl _ _ _) rfl ?_)|refine bodyPost_ret (results_none rfl _ _ _) rfl ?_
 exact⟨rfl,rfl⟩
theorem Acv (a:Addr)(w:World)(hc:w.cell? a=some (.int .i32 0))(hz:w.frozen? a=false):
 Calls Tryz.prog 254 #[.pointer (some a)] w λe w'=>e=.returned (.tuple #[])/\w'=w.setCell a (.int .i32 1):=by
 have b:=Lv (AfY a w hc hz);clear hc hz;go_enter Tryz.func254,Tryz.ntmps254
 go_wp2_with fail
 refine b.out.mono ?_;rintro e c ⟨rfl,rfl⟩;go_wp2
 first|go_end0|go_ret
 exact⟨rfl,rfl⟩
theorem Yu (a:Addr)(u:FrameMode)(w:World)(hc:w.cell? a=some (.int .i32 1))(hz:w.frozen? a=false):
 CallsD Tryz.prog 255 #[.pointer (some a)] u w λe u' w'=>u'=u/\(e=.returned (.tuple #[])/\w'=w.setCell a (.int .i32 0)):=by
 have b:=Lv (AdA a w hc hz);clear hc hz;go_enter_d Tryz.func255,Tryz.ntmps255
 go_wp2_with fail
 refine b.out.mono ?_;rintro e c ⟨rfl,rfl⟩;go_wp2
 first|go_end0|go_ret
 exact⟨rfl,rfl⟩
def ZP (p:PgV)(dn st:Int)(v:Value):Array Value:=#[.int .i64 p.params,.slice p.va p.V.length p.vcap,.slice p.ba p.body.length p.bcap,.int .u32 dn,.int .i32 st,.int .u32 0,v]
theorem XO (a:Addr)(x:Int)(w:World)(hc:w.cell? a=some (.int .u32 x)):
 Calls Tryz.prog 235 #[.pointer (some a)] w λe w'=>e=.returned (.bool (x != 0))/\w'=w:=by
 have b:=run_call_load (P:=Tryz.prog) Tryz.func253 (by kernel_rfl) (by kernel_rfl) (by kernel_rfl) .u32 (by kernel_rfl) hc;go_enter Tryz.func235,Tryz.ntmps235
 go_wp2
 go_ret
 exact⟨rfl,rfl⟩
theorem AfE (bk:Nat)(p:PgV)(v0:Value)(R:Value->World->Prop)(w:World)(hr:Row w bk 177 (ZP p 0 0 v0))
 (hF:Calls Tryz.prog 192 #[.pointer (some ⟨bk,0,none⟩)] (w.setCell ⟨bk,4,none⟩ (.int .i32 1)) λe w1=>e=.returned (.tuple #[])/\∃v,Row w1 bk 177 (ZP p 0 1 v)/\R v w1):
 Calls Tryz.prog 236 #[.pointer (some ⟨bk,3,none⟩),.func (.func 192) #[.pointer (some ⟨bk,0,none⟩)] #[]] w λe w'=>
  e=.returned (.tuple #[])/\∃v w1,Row w1 bk 177 (ZP p 0 1 v)/\R v w1/\w'=(w1.drew.setCell ⟨bk,3,none⟩ (.int .u32 1)).setCell ⟨bk,4,none⟩ (.int .i32 0):=by
 have a:=Lv (Acv ⟨bk,4,none⟩ w (hr.cellv (i:=4) rfl) (hr.free 4));have j:Row (w.setCell ⟨bk,4,none⟩ (.int .i32 1)) bk 177 (ZP p 0 1 v0):=hr.set 4 _;generalize w.setCell ⟨bk,4,none⟩ (.int .i32 1)=w1 at a j hF;have g:=Lv hF;have b:=Lv (XO ⟨bk,3,none⟩ 0 w1 (j.cellv (i:=3) rfl));have h:∀(x:Bool) (w:World),(Op.unary .not (.bool x)).run Tryz.prog w=.ok (.bool (!x)) w:=λ_ _=>rfl
 clear hr hF;go_enter_defers Tryz.func236,Tryz.ntmps236
 go_wp2_with fail
 refine a.out.mono ?_;rintro e w' ⟨rfl,rfl⟩;clear a;go_wp2_with fail
 refine b.out.mono ?_;rintro e w' ⟨rfl,rfl⟩;clear b;go_wp2_with fail
 refine g.out.mono ?_;rintro e d ⟨rfl,v,c,l⟩;clear g;go_wp2_with fail
 refine leaves_cons (f:=256) (args:=#[.pointer (some ⟨bk,3,none⟩),.bool true]) (by simp) (by simp[go_sem]) ?_;refine(YZ ⟨bk,3,none⟩ (.int .u32 0) .returning _ (c.cellv (i:=3) rfl) (c.free 3)).mono ?_;rintro e m n ⟨rfl,rfl,rfl⟩;have k:Row (d.drew.setCell ⟨bk,3,none⟩ (.int .u32 1)) bk 177 (ZP p 1 1 v):=Row.set (w:=d.drew) (cs:=ZP p 0 1 v) c 3 (.int .u32 1);refine leaves_cons (f:=255) (args:=#[.pointer (some ⟨bk,4,none⟩)]) (by simp[settle]) (by simp[go_sem]) ?_;refine(Yu ⟨bk,4,none⟩ _ _ (k.cellv (i:=4) rfl) (k.free 4)).mono ?_;rintro e m o ⟨rfl,rfl,rfl⟩;simp only[Leaves,settle];refine⟨_,results_none rfl _ _ _,rfl,v,d,c,l,rfl⟩
theorem AfD (bk:Nat)(p:PgV)(v0:Value)(R:Value->World->Prop)(w:World)(hr:Row w bk 177 (ZP p 0 0 v0))
 (hF:Calls Tryz.prog 192 #[.pointer (some ⟨bk,0,none⟩)] (w.setCell ⟨bk,4,none⟩ (.int .i32 1)) λe w1=>e=.returned (.tuple #[])/\∃v,Row w1 bk 177 (ZP p 0 1 v)/\R v w1):
 Calls Tryz.prog 191 #[.pointer (some ⟨bk,3,none⟩),.func (.func 192) #[.pointer (some ⟨bk,0,none⟩)] #[]] w λe w'=>
  e=.returned (.tuple #[])/\∃v w1,Row w1 bk 177 (ZP p 0 1 v)/\R v w1/\w'=(w1.drew.setCell ⟨bk,3,none⟩ (.int .u32 1)).setCell ⟨bk,4,none⟩ (.int .i32 0):=by
 have a:=Lv (XO ⟨bk,3,none⟩ 0 w (hr.cellv (i:=3) rfl));have b:=Lv (AfE bk p v0 R w hr hF);have c:∀(x:Bool) (w:World),(Op.unary .not (.bool x)).run Tryz.prog w=.ok (.bool (!x)) w:=λ_ _=>rfl
 clear hr hF;go_enter Tryz.func191,Tryz.ntmps191
 go_wp2_with fail
 refine a.out.mono ?_;rintro e w' ⟨rfl,rfl⟩;clear a;go_wp2_with fail
 refine b.out.mono ?_;rintro e d ⟨rfl,h⟩;clear b;go_wp2_with fail
 go_end0
 exact⟨rfl,h⟩
end Go.Proofs.YtgnmkiafeplbpaaGreatDoor
