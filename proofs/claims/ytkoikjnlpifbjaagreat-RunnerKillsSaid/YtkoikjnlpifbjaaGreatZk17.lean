/- Lemmas for RunnerKillsP. -/
import Derived.Test.YtkoikjnlpifbjaaGreatZk1
import Derived.Test.YtkoikjnlpifbjaaGreatZk16
import Derived.Test.YtkoikjnlpifbjaaGreatZk11
import Derived.Test.YtkoikjnlpifbjaaGreatZk13
set_option linter.unusedVariables false
set_option linter.unusedSimpArgs false
set_option maxRecDepth 100000
set_option maxHeartbeats 16000000
namespace Go.Proofs.YtkoikjnlpifbjaaGreat
open Go.RowKit Go.Deep
attribute [local go_sem] Oper.semAt_some
theorem U5{F:Fence}{n:Nat}{P:Program}{ops:Array Oper}{rest:List Oper}{o:Oper}{a:Act}{w w1:World}{Q:Exit->Act->World->Prop}(hgd:o.guard=none)(hd:∀c,o.op≠.defer c)(ha:o.about P w a.eval=none)(v:Value)(hv:(execOp a.eval o).run P w=.ok (.value v) w1)(h:wpListIn F n P ops Q rest (a.put o.dst v) w1):wpListIn F n P ops Q (o::rest) a w:=
 wpListIn_plain hgd λK hK=>by
  unfold Oper.wpIn
  refine⟨λf hf=>(by rw[ha]at hf;cases hf),?_⟩
  rw[Oper.semAt_plain _ _ _ hd,hv]
  exact hK _ _ h
theorem AcM{F:Fence}{n:Nat}{P:Program}{ops:Array Oper}{rest:List Oper}{o:Oper}{a:Act}{w:World}{Q:Exit->Act->World->Prop}(s x:Operand)(t u:TypeId)(_:o.op=.call { callee:=.builtin .append,args:=#[s,x],argTypes:=#[t,u] })(h:Stop (wpListIn F n P ops Q (o::rest) a w) id):wpListIn F n P ops Q (o::rest) a w:=h.out
theorem X8{F:Fence}{n:Nat}{P:Program}{ops:Array Oper}{rest:List Oper}{o:Oper}{a:Act}{w:World}{Q:Exit->Act->World->Prop}(ty:TypeId)(p x:Operand)(_:o.op=.store ty p x)(h:Stop (wpListIn F n P ops Q (o::rest) a w) id):wpListIn F n P ops Q (o::rest) a w:=h.out
def Ob (bk:Nat)(W:World)(k:Nat):Prop:=∃a n c,W.cell? ⟨bk,6,none⟩=some (.slice (some a) n c)/\a.block=k
structure KpB (bk:Nat)(L:Nat->Prop)(A B:World):Prop where
 block:∀k o,k≠bk->¬L k->¬Ob bk A k->A.heap[k]? =some o->B.heap[k]? =some o
 size:A.heap.size<=B.heap.size
 own:∀k,Ob bk B k->Ob bk A k\/A.heap.size<=k
 lt:(∀k,Ob bk A k->k<A.heap.size)->∀k,Ob bk B k->k<B.heap.size
 cell:∀j,j≠6->B.cell? ⟨bk,j,none⟩=A.cell? ⟨bk,j,none⟩
theorem KpB.trans{bk:Nat}{L:Nat->Prop}{A B C:World}(h:KpB bk L A B)(k:KpB bk L B C):KpB bk L A C:=
 ⟨λi o h1 h2 h3 h4=>k.block i o h1 h2 (λho=>(h.own i ho).elim h3 λhs=>by have:=(Lr.1 h4).1;omega) (h.block i o h1 h2 h3 h4),Ld h.size k.size,
  λi ho=>(k.own i ho).elim (λh1=>h.own i h1) λhs=>.inr (Ld h.size hs),λhl=>k.lt (h.lt hl),λj hj=>(k.cell j hj).trans (h.cell j hj)⟩
theorem KpB.refl (bk:Nat)(L:Nat->Prop)(A:World):KpB bk L A A:=⟨λ_ _ _ _ _ h=>h,Nat.le_refl _,λ_ h=>.inl h,λh=>h,λ_ _=>rfl⟩
theorem YY{bk:Nat}{A B:World}(h:B.cell? ⟨bk,6,none⟩=A.cell? ⟨bk,6,none⟩){k:Nat}(ho:Ob bk B k):Ob bk A k:=by
 obtain⟨a,n,c,e,d⟩:=ho;exact⟨a,n,c,by rw[<-h];exact e,d⟩
theorem KpB.of_below{bk:Nat}{L:Nat->Prop}{A B:World}(hb:bk<A.heap.size)(h:Below A.heap.size A B):KpB bk L A B:=by
 have d:∀j,B.cell? ⟨bk,j,none⟩=A.cell? ⟨bk,j,none⟩:=λj=>World.cell?_of_block (h.block bk hb);exact⟨λk o _ _ _ c=>by rw[h.block k (Lr.1 c).1];exact c,h.size,λk c=>.inl (YY (d 6) c),λe k c=>Lg (e k (YY (d 6) c)) h.size,λj _=>d j⟩
structure Safe (bk:Nat)(L:Nat->Prop)(W:World)(k:Nat):Prop where
 nb:k≠bk
 nl:¬L k
 no:¬Ob bk W k
 lt:k<W.heap.size
theorem KpB.safe{bk:Nat}{L:Nat->Prop}{A B:World}(h:KpB bk L A B){k:Nat}(s:Safe bk L A k):Safe bk L B k:=
 ⟨s.nb,s.nl,λho=>(h.own k ho).elim s.no λhs=>by have:=s.lt;omega,Lg s.lt h.size⟩
theorem KpB.row{bk:Nat}{L:Nat->Prop}{A B:World}(h:KpB bk L A B){g:Nat}{t:TypeId}{cs:Array Value}(hr:Row A g t cs)(s:Safe bk L A g):Row B g t cs:=h.block g _ s.nb s.nl s.no hr
theorem KpB.rd{bk:Nat}{L:Nat->Prop}{A B:World}(h:KpB bk L A B){ad:Option Addr}{xs:List Value}(hr:Rd A ad xs)(hx:xs≠[]->∀a,ad=some a->Safe bk L A a.block):Rd B ad xs:=λj u hj=>by
 obtain⟨a,e,k⟩:=hr j u hj;have g:xs≠[]:=λe=>by rw[e]at hj;simp at hj
 have d:=World.block_lt_of_cell? _ _ k;have c:(a.add j).block=a.block:=JG a j;rw[c]at d;have s:=hx g a e;have i:A.heap[a.block]? =some A.heap[a.block]:=NE d;have l:=h.block _ _ s.nb s.nl s.no i;exact⟨a,e,(World.cell?_of_block (by rw[c];exact l.trans i.symm)).trans k⟩
structure EachC (p:PgV)(bk bb:Nat)(L:Nat->Prop)(W:World):Prop where
 rb:Row W bb 96 #[.pointer (some ⟨bk,0,none⟩)]
 sb:Safe bk L W bb
 cb:W.cell? ⟨bk,2,none⟩=some (.slice p.ba p.body.length p.bcap)
 hr:Rd W p.ba (p.body.flatMap Nd.cells)
 sA:p.body.flatMap Nd.cells≠[]->∀ad,p.ba=some ad->Safe bk L W ad.block
 ltk:∀k,Ob bk W k->k<W.heap.size
 hL:∀k,L k->k<W.heap.size
 hbk:bk<W.heap.size
theorem EachC.kx{p:PgV}{bk bb:Nat}{L:Nat->Prop}{W W':World}(h:EachC p bk bb L W)(k:KpB bk L W W'):EachC p bk bb L W':=
 ⟨k.row h.rb h.sb,k.safe h.sb,(k.cell 2 (by omega)).trans h.cb,k.rd h.hr h.sA,λhne ad e=>k.safe (h.sA hne ad e),k.lt h.ltk,λi hi=>Lg (h.hL i hi) k.size,Lg h.hbk k.size⟩
theorem EachC.fresh{p:PgV}{bk bb:Nat}{L:Nat->Prop}{W W':World}(h:EachC p bk bb L W)(b:Below W.heap.size W W'){k:Nat}(h1:W.heap.size<=k)(h2:k<W'.heap.size):Safe bk L W' k:=
 ⟨by have:=h.hbk;omega,λhl=>by have:=h.hL k hl;omega,λho=>by
  have:=h.ltk k (YY (World.cell?_of_block (b.block bk h.hbk)) ho);omega,h2⟩
theorem EachC.add{p:PgV}{bk bb:Nat}{w W:World}{lb:Nat}(h:EachC p bk bb (λ_=>False) w)(b:Below w.heap.size w W)(h1:w.heap.size<=lb)(h2:lb<W.heap.size):EachC p bk bb (λi=>i=lb) W:=by
 have k:=h.kx (KpB.of_below h.hbk b);have g:∀i,i<w.heap.size->Safe bk (λ_=>False) W i->Safe bk (λi=>i=lb) W i:=λi hi s=>⟨s.nb,by omega,s.no,s.lt⟩;exact⟨k.rb,g _ h.sb.lt k.sb,k.cb,k.hr,λc d e=>g _ (h.sA c d e).lt (k.sA c d e),k.ltk,λi hi=>by omega,k.hbk⟩
structure DlT (W:World)(x:DlV):Prop where
 ok:DlOk W x
 ib:IntB W x.A
 nil:x.A=none->x.d.path=[]
def DlP (full:List Dl)(pre:List DlV)(x:DlV)(W:World):Prop:=DlT W x/\∃rest,pre.map DlV.d++x.d::rest=full
def mkD (π:List Int)(c:Int×Int):Dl:=⟨π,c.1,c.2⟩
def UX (l:List Nd)(t:Tr)(q:Nat):List Dl:=((Q5 [] 0 t).take q).flatMap λe=>(Ja l e.1).map (mkD e.2)
theorem Aef (l:List Nd)(t:Tr){q:Nat}(h:t.size<=q):UX l t q=Ze l t:=by
 unfold UX Ze;rw[L7 (by rw[Jk];exact h)];rfl
theorem Vu{l:List Nd}{t:Tr}{q:Nat}{π:List Int}(h:(Q5 [] 0 t)[q]? =some (q,π)):UX l t (q+1)=UX l t q++(Ja l q).map (mkD π):=by
 unfold UX;rw[L9,h];simp
theorem Ai6{l:List Nd}{t:Tr}{q:Nat}{π:List Int}(h:(Q5 [] 0 t)[q]? =some (q,π)):∃rest,UX l t q++(Ja l q).map (mkD π)++rest=Ze l t:=by
 rw[<-Vu h];refine⟨((Q5 [] 0 t).drop (q+1)).flatMap λe=>(Ja l e.1).map (mkD e.2),?_⟩;unfold UX Ze;rw[<-L6,LF];rfl
theorem X9 (l:List Nd)(q:Nat){t:Tr}(hat:At l q t)(ha:¬Qv t.root<0):(Ja l q).length<=100:=by
 rw[<-Ev hat ha];exact AhM _ _
theorem Agc{l:List Nd}{t:Tr}{q:Nat}(hw:Whole l t)(hq:q<l.length):∃π k,(Q5 [] 0 t)[q]? =some (q,π)/\At l q k:=by
 obtain⟨e,d⟩:∃e,(Q5 [] 0 t)[q]? =some e:=⟨_,Lb (by rw[Jk,hw.size];exact hq)⟩;have c:=Vl t [] 0 q e d;rw[LG]at c;obtain⟨k,h⟩:=(J7 t [] 0 e.1 e.2).1 (by simpa using Lf d);have g:=UA hw.hat h;obtain⟨a,b⟩:=e;simp only at c g;subst c;exact⟨b,k,d,g⟩
mutual
theorem UK:∀(t:Tr) (own:List Int) (q:Nat) (e:Nat×List Int),e∈Q5 own q t->e.2.length+1<=own.length+t.size
 | .node x ks,own,q,e,h=>by
  have hs:(Tr.node x ks).size=(QM ks).length+1:=by rw[Tr.size,Tr.flat,Lc]
  rw[Q5]at h
  rcases Ls.1 h with h|h
  ·rw[h,hs];show own.length+1<=_;omega
  ·have:=UJ ks own (q+1) 0 e h;omega
theorem UJ:∀(ts:List Tr) (own:List Int) (q:Nat) (i:Int) (e:Nat×List Int),e∈ZF own q i ts->e.2.length+1<=own.length+1+(QM ts).length
 |[],own,q,i,e,h=>by simp[ZF]at h
 |t::ts,own,q,i,e,h=>by
  have hl:(QM (t::ts)).length=t.size+(QM ts).length:=by rw[QM,Le];rfl
  rw[ZF]at h
  rcases L2.1 h with h|h
  ·have:=UK t _ _ e h;simp at this;omega
  ·have:=UJ ts own _ _ e h;omega
end
theorem Alo{W:World}{A:Option Addr}{l:List (Int×Int)}(hr:Rd W A (l.flatMap chC)){k:Nat}{x:Int×Int}(hx:l[k]? =some x):∃ad,A=some ad/\∀(j:Nat) (u:Value),(chC x)[j]? =some u->W.cell? ((ad.add (k*3)).add j)=some u:=
 KW (c:=chC) (sz:=3) (λ_=>rfl) (by decide) hr hx
theorem AeT (p:PgV)(t:Tr)(hf:Fine p t)(hlc:p.body.length<=p.bcap)(hcm:p.bcap<=maxLen)(bk bb:Nat)(w:World)(hC:EachC p bk bb (λ_=>False) w):
 Ej Tryz.prog 151 #[.pointer (some ⟨bb,0,none⟩)] (λx:DlV=>#[.agg x.cells]) (λ_=>False) (λlb=>KpB bk (λi=>i=lb)) (DlP (Ze p.body t)) (λxs=>xs.map DlV.d=Ze p.body t) (λ_=>True) (Ze p.body t).length True w:=by
 intro lb J Jx W a6 ac _ hJ cp hY h0;have bi:Below w.heap.size w W:=⟨ac.os,ac.tape,ac.output,ac.size,λk hk=>ac.block k hk (by simp)⟩;have ag:=hC.add bi a6.1 a6.2;clear hC a6 bi ac w;have a3:∀g x W1,J g W1->DlP (Ze p.body t) g x W1->g.length<(Ze p.body t).length->YieldAt Fence.wide 0 Tryz.prog lb #[.agg x.cells] W1 λe W'=>(e=.returned (.bool true)/\J (g++[x]) W'/\KpB bk (λi=>i=lb) W1 W')\/(e=.returned (.bool false)/\Jx (g++[x]) W'/\KpB bk (λi=>i=lb) W1 W'):=hY;clear hY;generalize (λi=>i=lb)=L at ag a3;obtain⟨N,hN⟩:∃N,N=p.body.length:=⟨_,rfl⟩;have cq:(N:Int)<=200:=by have:=hf.len;omega
 have HN:=Lh hN;have HC:=Lh ag;have HJ:=Lh hJ;have HY:=Lh a3;have Hf:=Lh hf;have b9:=Lh hlc;have b0:=Lh hcm;have c0:=ag.rb.cellv (i:=0) (v:=.pointer (some ⟨bk,0,none⟩)) rfl;have c1:=ag.cb;rw[<-hN]at c1;clear hN ag hJ a3 hf hlc hcm;refine callsIn_of_wp Tryz.func151 rfl trivial ?_ rfl;simp only[Tryz.ntmps151,Lk,Lc,Lo,Nat.reduceAdd,Nat.reduceSub,Li,Lj,Lp,L5,Lm,Ll];gi_wp2_with fail
 gi_loopw [14] (λi wr=>∃(q:Nat) (g:List DlV),i=.int .i64 (q:Int)/\q<=N/\Hid (g.map DlV.d=UX p.body t q)/\Hid (EachC p bk bb L wr)/\J g wr) (λi _=>N-(intOf i).toNat)
 case atStart=>exact⟨0,[],by simp,Nat.zero_le _,Lh (by simp[UX]),HC,h0⟩
 case round=>
  clear h0 c0 c1 HC;obtain⟨q,g,rfl,cw,n,HC,hj⟩:=hrel;by_cases cm:q<N;rotate_left
  ·obtain rfl:q=N:=by omega
   gi_wp2_with fail
   go_end0
   refine⟨⟨_,rfl⟩,.inl ⟨_,?_,hj⟩⟩;rw[n.out];exact Aef _ _ (by have:=Hf.out.good.size;have:=HN.out;omega)
  obtain⟨π,tq,a7,o⟩:=Agc Hf.out.good.whole (q:=q) (by have:=HN.out;omega);have aa:¬Qv tq.root<0:=Hf.out.ar _ (Lf o.root);have a1:=Lh (λW h=>Afm p.ba p.bcap p.body t q π W Hf.out.good.hat Hf.out.good.size a7 h (by have:=Hf.out.len;omega));have ak:=Lh (λW h=>Ac1 p.ba p.bcap p.body q tq W o h (by have:=Hf.out.len;omega) b9.out b0.out (Ai3 aa).1 (Ai3 aa).2 (Ail o aa));rw[Ev o aa, <-HN.out]at ak;rw[<-HN.out]at a1;have a2:=Lh a7;have bm:=X9 p.body q o aa;obtain⟨z,a5⟩:∃z,z=Ja p.body q:=⟨_,rfl⟩;rw[<-a5]at ak bm;have be:=Lh a5;have cu:(q:Int)<(N:Int):=by omega
  have c0:=HC.out.rb.cellv (i:=0) (v:=.pointer (some ⟨bk,0,none⟩)) rfl;have c1:=HC.out.cb;rw[<-HN.out]at c1;clear a7 o aa a5 cm;gi_wp2_with fail
  refine⟨trivial,rfl,(callsIn_wide.2 (a1.out wr HC.out.hr)).mono ?_⟩;rintro e w1 ⟨PA,pc,rfl,a8,bs,b1,br⟩;have u:=Lh (HC.out.kx (KpB.of_below HC.out.hbk b1));replace hj:=QI HJ.out hj b1;have bv:Qi π≠[]->∀s,PA=some s->Safe bk L w1 s.block:=λah s e=>HC.out.fresh b1 (br s e) (KY a8 ah e)
  have c0:=u.out.rb.cellv (i:=0) (v:=.pointer (some ⟨bk,0,none⟩)) rfl;have c1:=u.out.cb;rw[<-HN.out]at c1;clear b1 br a1 HC;gi_wp2_with fail
  refine⟨trivial,rfl,(callsIn_wide.2 (ak.out w1 u.out.hr)).mono ?_⟩;rintro e w2 ⟨cv,rfl,j,b2⟩;obtain⟨CA,cc,rfl⟩:=Zq j;have a4:Rd w2 CA (z.flatMap chC):=XC j;have bj:∀s,CA=some s->w1.heap.size<=s.block:=λs e=>QQ j (by rw[e];rfl)
  have bu:z.flatMap chC≠[]->∀s,CA=some s->Safe bk L w2 s.block:=λah s e=>u.out.fresh b2 (bj s e) (KY a4 ah e)
  have ay:Qi π≠[]->∀s,PA=some s->Safe bk L w2 s.block:=λah s e=>(KpB.of_below u.out.hbk b2).safe (bv ah s e)
  have a0:=Lh (u.out.kx (KpB.of_below u.out.hbk b2));have b7:=Lh a4;have cg:=Lh bu;have ch:=Lh ay;have cf:=Lh (a8.go b2);have ce:=Lh bs;have cr:(z.length:Int)<=100:=by omega
  replace hj:=QI HJ.out hj b2;clear j a4 bj bu ay bv a8 bs b2 u c0 c1 ak;gi_wp2_with fail
  gi_loopw [35] (λi wr=>∃(k:Nat) (g:List DlV),i=.int .i64 (k:Int)/\k<=z.length/\Hid (g.map DlV.d=UX p.body t q++(z.take k).map (mkD π))/\Hid (KpB bk L w2 wr)/\J g wr) (λi _=>z.length-(intOf i).toNat)
  case atStart=>exact⟨0,g,by simp,Nat.zero_le _,Lh (by rw[n.out];simp),Lh (KpB.refl _ _ _),hj⟩
  case round=>
   clear hj;obtain⟨k,g,rfl,hk,n,af,hj⟩:=hrel;by_cases al:k<z.length;rotate_left
   ·obtain rfl:k=z.length:=by omega
    have cd:Hid (g.map DlV.d=UX p.body t (q+1)):=by
     show _=_;rw[n.out,LT,Vu a2.out,be.out]
    have bz:=Lh (a0.out.kx af.out);clear n a0;gi_wp2_with fail
    go_roundw
    case rel=>exact⟨q+1,g,by go_num,by omega,cd,bz,hj⟩
    case measure=>simp[intOf];omega
   obtain⟨c,hc⟩:∃c,z[k]? =some c:=⟨_,Lb al⟩;have bt:=af.out.rd b7.out cg.out;obtain⟨ca,cj,bl⟩:=Alo bt hc;subst cj;have bd:=Lh bl;have Hc:=Lh hc;have ct:(k:Int)<(z.length:Int):=by omega
   clear bt bl hc al;gi_wp2_with (first| (refine X8 _ _ _ rfl ?_)| (refine Je rfl 50 _ rfl (ca.add (k*3)) rfl [.slice none 0 0,.int .i64 c.1,.int .i64 c.2] _ bd.out Tryz.underlying50 rfl (by kernel_rfl) ?_))
   refine Stop.to ?_;obtain⟨D,hD⟩:∃D,D=wr.heap.size:=⟨_,rfl⟩;obtain⟨w3,am⟩:∃w3,w3=wr.alloc (.cells #[.slice none 0 0,.int .i64 0,.int .i64 0] 50):=⟨_,rfl⟩;have bc:Row w3 D 50 #[.slice none 0 0,.int .i64 0,.int .i64 0]:=by rw[am,hD];exact Row.new _ _ _
   have b3:Below wr.heap.size wr w3:=by rw[am];exact(Below.refl _ _).alloc (Nat.le_refl _) _
   rw[<-am, <-hD];have bh:wr.heap.size<=D:=LD hD.symm;clear am hD;refine Zd rfl 50 _ _ rfl D #[.slice none 0 0,.int .i64 c.1,.int .i64 c.2] rfl rfl 50 _ bc (by kernel_rfl) rfl (by simp[Value.oneCell']) ?_;have aj:=bc.setRow #[.slice none 0 0,.int .i64 c.1,.int .i64 c.2];have b4:Below wr.heap.size wr (w3.setRow D #[.slice none 0 0,.int .i64 c.1,.int .i64 c.2]):=Qp b3 (ZN _ _ _) bh;generalize w3.setRow D #[.slice none 0 0,.int .i64 c.1,.int .i64 c.2]=w4 at aj b4|-;clear bc b3 bd;have av:Rd w4 PA (Qi π):=(af.out.rd cf.out ch.out).go b4;have hπ:π.length<=1000:=by have h9:π.length+1<=0+t.size:=UK t [] 0 _ (Lf a2.out);have:=Hf.out.good.size;have:=Hf.out.len;omega
   obtain⟨v5,w5,ax,j,ab, -⟩:=ZA (P:=Tryz.prog) 22 3 (.int .i64 0) 1 8 Tryz.underlying22 Jc rfl (by decide) (by decide) (World.ownsRow_nil w4 w4.heap.size 3 1) (Nat.le_refl _) av (m:=π.length) (cap:=pc) (by rw[JZ,Nat.mul_one]) (Jn π) (λe=>by rw[ce.out e];rfl) (by omega);have b5:Below w4.heap.size w4 w5:=⟨ab.os,ab.tape,ab.output,ab.size,λk hk=>ab.block k hk (by simp[Value.ownBlock])⟩;rw[LG,Lm]at j;obtain⟨y,ae,rfl,aw,bq,au,ai⟩:=Y0 j;have ap:IntB w5 y:=E5 j rfl;have an:=aj.below b5 aj.lt;have l4:=aj.lt;have bg:=b4.trans (b5.mono b4.size);have ao:=Lh ax;clear j ab ax av b5 aj;obtain⟨x,hx⟩:∃x:DlV,x=⟨y,ae,mkD π c⟩:=⟨_,rfl⟩;have bw:Row (w5.setCell ⟨D,0,none⟩ (.slice y π.length ae)) D 50 x.cells:=by rw[hx];exact an.set 0 _
   have o6:=Zl w5 D 0 (.slice y π.length ae);have c5:w5.cell? ⟨D,0,none⟩=some (.slice none 0 0):=an.cellv (i:=0) rfl;have f5:=an.free 0;have b6:Below wr.heap.size wr (w5.setCell ⟨D,0,none⟩ (.slice y π.length ae)):=Qp bg o6 bh;have bp:Qi π≠[]->∀a,y=some a->a.block≠D:=λ_ a e=>by have:=ai a e;omega
   have hT:DlT (w5.setCell ⟨D,0,none⟩ (.slice y π.length ae)) x:=by
    rw[hx];refine⟨⟨aw.only o6 bp,by show π.length<=1000000;omega⟩,λa e=>?_,λe=>?_⟩
    ·obtain⟨ci,cn⟩:=ap a e;exact⟨ci,cn.only o6 (by have:=ai a e;omega)⟩
    ·show π=[];have h0:=au e;exact Lt (by omega)
   have hP:DlP (Ze p.body t) g x (w5.setCell ⟨D,0,none⟩ (.slice y π.length ae)):=by
    refine⟨hT,?_⟩;obtain⟨az,a9⟩:=Ai6 (l:=p.body) a2.out;refine⟨(z.drop (k+1)).map (mkD π)++az,?_⟩;obtain⟨al,ck⟩:=La.1 Hc.out;rw[<-a9, <-be.out,n.out,hx]
    conv=>rhs;rw[<-LF k z,LH al,ck]
    simp
   have aq:g.length<(Ze p.body t).length:=by
    obtain⟨_,az,hr⟩:=hP;rw[<-hr];simp
   have bn:=QI HJ.out hj b6;obtain⟨fn,co,bx,body,hy,hR⟩:=HY.out _ x _ bn hP aq;have HR:=Lh hR;have bf:=Lh (af.out.trans (KpB.of_below (by have:=a0.out.hbk;have:=af.out.size;omega) b6))
   have Hn:Hid ((g++[x]).map DlV.d=UX p.body t q++(z.take (k+1)).map (mkD π)):=by
    show _=_;rw[L9,Hc.out,LN,n.out,hx];simp
   clear hT hP aq bn hj hR b6 b4 bg o6 bp aw bq au ai ap an hx n Hc;gi_wp2_with (refine AcM _ _ _ _ rfl ?_);refine Stop.to ?_;refine U5 rfl (λc h=>by cases h) rfl _ (QE rfl ao.out) ?_;gi_wp2_with (refine Zz rfl 50 _ rfl D rfl 50 x.cells (0,0) _ bw Tryz.underlying50 rfl (by kernel_rfl) ?_);refine⟨rfl,HR.out.mono ?_⟩;clear hy HR bw c5 f5 ao;rintro e W' (⟨rfl,hj,bo⟩|⟨rfl,cl, -⟩);rotate_left
   ·gi_wp2_with fail
    refine bodyPost_ret (results_none rfl _ _ _) rfl ?_;exact⟨⟨_,rfl⟩,.inr ⟨_,trivial,cl⟩⟩
   have b8:=Lh (bf.out.trans bo);clear bf bo;gi_wp2_with fail
   go_roundw
   case rel=>exact⟨k+1,_,by go_num,by omega,Hn,b8,hj⟩
   case measure=>simp[intOf];omega
end Go.Proofs.YtkoikjnlpifbjaaGreat
