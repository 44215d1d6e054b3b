/- Lemmas for RunnerKillsP. -/
import Derived.Test.YtkoikjnlpifbjaaGreatZk1
import Derived.Test.YtkoikjnlpifbjaaGreatZk17
import Derived.Test.YtkoikjnlpifbjaaGreatZk5
set_option linter.unusedVariables false
set_option linter.unusedSimpArgs false
set_option maxRecDepth 100000
set_option maxHeartbeats 16000000
namespace Go.Proofs.YtkoikjnlpifbjaaGreat
open Go.RowKit Go.Deep
attribute [local go_sem] Oper.semAt_some
theorem Acf{P:Program}{r:Nat}{id:Nat}{Q:Exit->Act->World->Prop}{a:Act}{w:World}{l:List Oper}{S:World->Prop}(hm:P.follows .mixedOrders=true)(hd:YX l.toArray=true)(h:wpAnyH P .any l.toArray (Ends Q) S l.toArray.size (Array.replicate l.toArray.size false) a w.drew):(Code.region id l.toArray true).wpIn (Fence.wide.inRound r) 0 P Q a w:=
 VO hm hd (wpAny_of_held _ _ _ _ h)
theorem UH{w:World}{base size n:Nat}{e:TypeId}{v:Value}{xs:List Value}(h:w.ownsRow base e size v n xs):(v=.slice none 0 0/\v.ownBlock=none)\/∃g cap,v=.slice (some ⟨g,0,none⟩) n cap/\v.ownBlock=some g/\g<w.heap.size:=by
 rcases h.2 with⟨rfl,i⟩|⟨g,cap,c,rfl,_,d,_⟩
 ·exact .inl ⟨rfl,rfl⟩
 ·exact .inr ⟨g,cap,rfl,rfl,(Lr.1 d).1⟩
theorem XW{bk:Nat}{W:World}{p:PgV}{dn st:Int}{v:Value}(h:Row W bk 98 (Z5 p dn st v)){k:Nat}:Ob bk W k<->∃a n c,v=.slice (some a) n c/\a.block=k:=by
 have d:W.cell? ⟨bk,6,none⟩=some v:=h.cellv (i:=6) rfl;unfold Ob;rw[d];simp only[Nc]
theorem KpB.put{bk:Nat}{L:Nat->Prop}{A B:World}{p:PgV}{v v':Value}{lim n m:Nat}{xs ys:List Value}(hr:Row A bk 98 (Z5 p 0 1 v))(h:A.ownsRow lim 50 3 v n xs)(hg:A.grownBy B v.ownBlock)
 (h':B.ownsRow lim 50 3 v' m ys) (hat:v'.ownBlock=v.ownBlock\/v'.ownBlock=some A.heap.size):KpB bk L A (B.setCell ⟨bk,6,none⟩ v')/\Row (B.setCell ⟨bk,6,none⟩ v') bk 98 (Z5 p 0 1 v'):=by
 have w:=hr.grown hg (Qz h hr (by decide));have i:Row (B.setCell ⟨bk,6,none⟩ v') bk 98 (Z5 p 0 1 v'):=w.set 6 v';have o:=Zl B bk 6 v'
 have y:∀k,v.ownBlock=some k->Ob bk A k:=λk e=>by
  rcases UH h with⟨_,l⟩|⟨g,c,d,l,_⟩
  ·rw[l]at e;cases e
  ·rw[l]at e;injection e with e;subst e;exact(XW hr).2 ⟨_,_,_,d,rfl⟩
 have t:∀k,Ob bk (B.setCell ⟨bk,6,none⟩ v') k->v'.ownBlock=some k/\k<B.heap.size:=λk s=>by
  obtain⟨a,n',c',d,l⟩:=(XW i).1 s;rcases UH h' with⟨u,_⟩|⟨g,c,u,z,e5⟩
  ·rw[u]at d;cases d
  ·rw[u]at d;injection d with d;injection d with d;subst d;subst l;exact⟨z,e5⟩
 refine⟨⟨λk ob q _ h3 x=>?_,?_,λk s=>?_,λ_ k s=>?_,λj hj=>?_⟩,i⟩
 ·rw[o.block k q];exact(hg.block k (Lr.1 x).1 (λe=>h3 (y k e.symm))).trans x
 ·rw[o.size];exact hg.size
 ·obtain⟨e,_⟩:=t k s;rcases hat with q|q
  ·rw[q]at e;exact .inl (y k e)
  ·rw[q]at e;injection e with e;exact .inr (LD e)
 ·rw[o.size];exact(t k s).2
 ·rw[i.cell j,hr.cell j]
  match j,hj with
  |0,_|1,_|2,_|3,_|4,_|5,_=>rfl
  |j+7,_=>simp[Z5]
theorem DlT.same{A B:World}{x:DlV}(h:DlT A x)(hb:∀(a:Addr) (cs:Array Value),x.A=some a->Row A a.block 3 cs->Row B a.block 3 cs):DlT B x:=
 ⟨⟨λj u hj=>by
  obtain⟨a,e,hc⟩:=h.ok.rd j u hj
  obtain⟨cs,hr⟩:=h.ib a e
  exact⟨a,e,(World.cell?_of_block (by rw[JG];exact(hb a cs e hr).trans (Eq.symm hr))).trans hc⟩,h.ok.len⟩,λa e=>by
  obtain⟨cs,hr⟩:=h.ib a e
  exact⟨cs,hb a cs e hr⟩,h.nil⟩
theorem DlT.go{A B:World}{x:DlV}(h:DlT A x)(b:Below A.heap.size A B):DlT B x:=h.same λ_ _ _ hr=>hr.below b hr.lt
theorem DlT.abide{W W':World}{x:DlV}{row:Option Nat}{q:Nat->Prop}(h:DlT W x)(hg:W.grownBy W' row)(hr:∀r,row=some r->False\/(q r/\∃o:Obj,W.heap[r]? =some o/\o.isCells=false)):DlT W' x:=h.same λ_ _ _ k=>k.abide hg hr
theorem DlT.own{W W':World}{x:DlV}{lim n:Nat}{v:Value}{xs:List Value}(h:DlT W x)(hown:W.ownsRow lim 50 3 v n xs)(hg:W.grownBy W' v.ownBlock):DlT W' x:=h.same λ_ _ _ k=>k.grown hg (Qz hown k (by decide))
theorem DlT.only{W W':World}{x:DlV}{g:Nat}{t:TypeId}{cs:Array Value}(h:DlT W x)(hr:Row W g t cs)(ht:t≠3)(o:Only g W W'):DlT W' x:=h.same λa cs' _ k=>k.only o (λe=>by
 have h1:W.heap[g]? =some (.cells cs' 3 (0,0)):=by rw[<-e];exact k
 rw[show W.heap[g]? =some (.cells cs t (0,0))from hr]at h1
 injection h1 with h1;injection h1 with _ h1;exact ht h1)
structure EachFn (bk:Nat)(w w':World)(e:Ending):Prop where
 ex:∃bb,e=.returned (.func (.func 151) #[] #[.pointer (some ⟨bb,0,none⟩)])/\Row w' bb 96 #[.pointer (some ⟨bk,0,none⟩)]/\w.heap.size<=bb/\Below w.heap.size w w'
theorem AeU (bk:Nat)(w:World):Calls Tryz.prog 115 #[.pointer (some ⟨bk,0,none⟩)] w λe w'=>EachFn bk w w' e:=by
 go_enter Tryz.func115,Tryz.ntmps115
 go_wp2_with (refine Qq _ _ rfl ?_)
 refine Stop.to ?_;refine Qe rfl 96 _ rfl #[.pointer (some ⟨bk,0,none⟩)] rfl ?_;intro G i d g c;have h:=(Below.refl w.heap.size w).trans (c.mono d);clear c;go_wp2
 go_ret
 exact⟨G,rfl,g,d,h⟩
structure FillD (p:PgV)(bk B:Nat)(full:List Dl)(w0:World)(v:Value)(W:World):Prop where
 ex:∃xs:List DlV,W.ownsRow B 50 3 v xs.length (Yb xs)/\xs.map DlV.d=full/\(∀x∈xs,DlT W x)/\Below B w0 W
theorem Ac9 (x:DlV):∀u∈x.cells.toList,u.oneCell'=true:=by
 intro u c;simp only[DlV.cells,Ls,Lw,or_false]at c;rcases c with rfl|rfl|rfl<;>rfl
theorem Abd (xs:List DlV)(x:DlV):Yb (xs++[x])=Yb xs++x.cells.toList:=by simp[Yb]
theorem Aeg{p:PgV}{t:Tr}(hf:Fine p t):∀q,q<=p.body.length->(UX p.body t q).length<=100*q
 |0,_=>by simp[UX]
 |q+1,h=>by
  obtain⟨π,k,hp,hat⟩:=Agc hf.good.whole (q:=q) (by omega)
  have h1:=Aeg hf q (by omega)
  have h2:=X9 p.body q hat (hf.ar _ (Lf hat.root))
  rw[Vu hp,Le,Lu];omega
theorem AfJ{p:PgV}{t:Tr}(hf:Fine p t):(Ze p.body t).length<=20000:=by
 have c:=Aeg hf p.body.length (Nat.le_refl _);have d:=hf.len;rw[Aef _ _ (LD hf.good.size)]at c;omega
theorem Aia (p:PgV)(t:Tr)(hf:Fine p t)(hlc:p.body.length<=p.bcap)(hcm:p.bcap<=maxLen)(bk B:Nat)(hB:B<=bk)(w0 w:World)(hbw:Below B w0 w)(hr:Row w bk 98 (Z5 p 0 1 (.slice none 0 0)))
 (hrd:Rd w p.ba (p.body.flatMap Nd.cells)) (hA:p.body.flatMap Nd.cells≠[]->∀ad,p.ba=some ad->ad.block≠bk):
 Calls Tryz.prog 79 #[.pointer (some ⟨bk,0,none⟩)] w λe w'=>e=.returned (.tuple #[])/\∃v,Row w' bk 98 (Z5 p 0 1 v)/\FillD p bk B (Ze p.body t) w0 v w':=by
 have Hf:=Lh hf;have bg:=Lh hlc;have be:=Lh hcm;have a1:=Lh hrd;have HA:=Lh hA;have bx:=hr.lt;have bs:=AfJ hf;obtain⟨ag,aj⟩:∃ag,ag=Ze p.body t:=⟨_,rfl⟩;rw[<-aj]at bs|-;clear hf hlc hcm hrd hA;refine(callsIn_wide (n:=0)).1 ?_;refine callsIn_of_wp_marks Tryz.func79 rfl trivial ?_;simp only[Tryz.ntmps79,Lk,Lc,Lo,Nat.reduceAdd,Nat.reduceSub,Li,Lj,Lp,L5,Lm,Ll];gi_wp2_with fail
 obtain⟨T1,a4⟩:∃B,B=w.heap.size:=⟨_,rfl⟩;obtain⟨w1,ax⟩:∃w1,w1=w.alloc (.cells #[.pointer (some ⟨bk,0,none⟩)] 96):=⟨_,rfl⟩;have rT:Row w1 T1 96 #[.pointer (some ⟨bk,0,none⟩)]:=by rw[ax,a4];exact Row.new _ _ _
 have b1:Below w.heap.size w w1:=by rw[ax];exact(Below.refl _ _).alloc (Nat.le_refl _) _
 rw[<-ax, <-a4];have gT:bk<T1:=by omega
 clear ax a4;refine⟨trivial,rfl,(callsIn_wide.2 (AeU bk w1)).mono ?_⟩;rintro e w2 ⟨bb,rfl,rb,gb,b2⟩;have lT:=rT.lt;have am:=b1.trans (b2.mono b1.size);replace rT:=rT.below b2 rT.lt;have r2:=hr.below am hr.lt;have s2:=r2.lt
 have ao:∀k,¬Ob bk w2 k:=λk ho=>by
  obtain⟨_,_,_,e,_⟩:=(XW r2).1 ho;cases e
 have hC:EachC p bk bb (λ_=>False) w2:=⟨rb,⟨by omega,λh=>h,ao _,rb.lt⟩,r2.cellv (i:=2) rfl,a1.out.go am,λbn ad e=>⟨HA.out bn ad e,λh=>h,ao _,KY (a1.out.go am) bn e⟩,λk ho=>absurd ho (ao k),λ_ h=>False.elim h,s2⟩;have bf:=Lh (AeT p t Hf.out bg.out be.out bk bb w2 hC);have bc:Hid (Below B w0 w2):=hbw.trans (am.mono (by have:=hbw.size;have:=am.size;omega));have bw:T1<bb:=by omega
 have b0:=rb.lt;clear ao hC rb b1 b2 am hr gb lT hbw a1 HA Hf bg be;gi_wp2_with fail
 rw[<-aj]at bf;have bp:Hid (∃v,Row w2 bk 98 (Z5 p 0 1 v)/\w2.ownsRow B 50 3 v ([]:List DlV).length (Yb [])/\(∀x∈([]:List DlV),DlT w2 x)/\Row w2 T1 96 #[.pointer (some ⟨bk,0,none⟩)]/\Below B w0 w2/\w2.heap.size<=w2.heap.size):=⟨_,r2,World.ownsRow_nil _ _ _ _,λx h=>by simp at h,rT,bc.out,Nat.le_refl _⟩;clear r2 rT bc aj
 refine Uo (gf:=151) (lb:=#[.pointer (some ⟨bb,0,none⟩)]) rfl (enters_of Tryz.func151 (by kernel_rfl) rfl) bf.out (λr h=>h.elim)
  (λh k=>h.trans k) (λV o o' ho hc=>?hKb) (World.grownBy.refl _ _) (λ_=>rfl)
  (λs V=>∃v,Row V bk 98 (Z5 p 0 1 v)/\V.ownsRow B 50 3 v s.length (Yb s)/\(∀x∈s,DlT V x)/\Row V T1 96 #[.pointer (some ⟨bk,0,none⟩)]/\Below B w0 V/\w2.heap.size<=V.heap.size)
  (λ_ _ _=>False) (.inl trivial) ?hI ?hIx bp.out
  (λs x a' V=>∃D,a'={ tmps:=#[.pointer (some ⟨bk,0,none⟩),.pointer (some ⟨T1,0,none⟩),.pointer (some ⟨D,0,none⟩),.pointer (some ⟨bk,0,none⟩),.func (.func 151) #[] #[.pointer (some ⟨bb,0,none⟩)],.agg x.cells,undef,undef,undef,undef,undef,undef,undef,undef,undef,undef],defers:=[] }/\Row V D 50 x.cells/\DlP ag s x V/\w2.heap.size<=D/\¬Ob bk V D) ?hAx ?assign ?body ?done ?stop
 case hKb=>
  have a6:∀j,(V.putObj (w2.heap.size+1) o').cell? ⟨bk,j,none⟩=V.cell? ⟨bk,j,none⟩:=λj=>World.cell?_of_block (World.putObj_heap_other (by show bk≠_;omega));exact⟨λk ob _ h2 _ h4=>by rw[World.putObj_heap_other (λe=>h2 e)];exact h4,by simp,λk ho=>.inl (YY (a6 6) ho),λhl k ho=>by have h9:=hl k (YY (a6 6) ho);simpa using h9,λj _=>a6 j⟩
 case hI=>
  rintro s V V' row ⟨v,h1,h2,h3,h4,h5,h6⟩ hg hr
  have a0:∀r,row=some r->w2.heap.size<=r/\v.ownBlock≠some r:=λr e=>by
   rcases hr r e with h|⟨h,o,ho,hc⟩
   ·exact h.elim
   ·exact⟨h,Jd h2 ho hc⟩
  refine⟨v,h1.abide hg hr,h2.kept hg ?_,λx hx=>(h3 x hx).abide hg hr,h4.abide hg hr,h5.grown hg (by have:=h1.lt;omega) (λk e=>by have:=(a0 k e).1;omega),Ld h6 hg.size⟩;cases row with
  |none=>cases v.ownBlock<;>simp
  |some r=>exact .inr (a0 r rfl).2
 case hIx=>exact λ_ _ _ _ _ h _ _=>h
 case hAx=>
  rintro s x a' _ V V' row ⟨D,h1,h2,⟨h3,h5⟩,h4,h6⟩ hg hr;refine⟨D,h1,h2.abide hg hr,⟨h3.abide hg hr,h5⟩,h4,λho=>h6 (YY (World.cell?_of_block (hg.block bk (by have:=h2.lt;show bk<_;omega) (λe=>?_))) ho)⟩;rcases hr _ e.symm with h|⟨h,_⟩
  ·exact h
  ·have:w2.heap.size<=bk:=h;omega
 case stop=>exact λD c s W _ _ h _=>h.elim
 case assign=>
  rintro l3 s x V K hI hP hK;have HK:=Lh hK;have HI:=Lh hI;have HP:=Lh hP;clear hK hI hP;gi_wp2_with (refine X8 _ _ _ rfl ?_);refine Stop.to ?_;obtain⟨D,hD⟩:∃D,D=V.heap.size:=⟨_,rfl⟩;obtain⟨V1,aw⟩:∃V1,V1=V.alloc (.cells #[.slice none 0 0,.int .i64 0,.int .i64 0] 50):=⟨_,rfl⟩;have rD:Row V1 D 50 #[.slice none 0 0,.int .i64 0,.int .i64 0]:=by rw[aw,hD];exact Row.new _ _ _
  have b1:Below V.heap.size V V1:=by rw[aw];exact(Below.refl _ _).alloc (Nat.le_refl _) _
  rw[<-aw, <-hD];have bj:V.heap.size<=D:=LD hD.symm;clear aw hD;refine Zd rfl 50 _ _ rfl D x.cells rfl rfl 50 _ rD (by kernel_rfl) rfl (by simp[DlV.cells,Value.oneCell']) ?_;have a9:=rD.setRow x.cells;have o2:=ZN V1 D x.cells;have b2:Below V.heap.size V (V1.setRow D x.cells):=Qp b1 o2 bj;generalize V1.setRow D x.cells=V2 at a9 o2 b2|-;obtain⟨v,h1,h2,h3,h4,h5,h6⟩:=HI.out;have bv:=b2.size
  have HF:Hid (KeepsFrom w2.heap.size V V2/\KpB bk (λi=>i=w2.heap.size+1) V V2/\(∃v,Row V2 bk 98 (Z5 p 0 1 v)/\V2.ownsRow B 50 3 v s.length (Yb s)/\(∀x∈s,DlT V2 x)/\Row V2 T1 96 #[.pointer (some ⟨bk,0,none⟩)]/\Below B w0 V2/\w2.heap.size<=V2.heap.size)/\Row V2 D 50 x.cells/\DlP ag s x V2/\w2.heap.size<=D/\¬Ob bk V2 D):=
   ⟨(KpX.of_below b2).keeps (X:=λ_=>False) (λ_ h=>h.elim),KpB.of_below h1.lt b2,⟨v,h1.below b2 h1.lt,QB h2 b2,λy hy=>(h3 y hy).go b2,h4.below b2 h4.lt,h5.trans (b2.mono (by have:=h1.lt;omega)),by omega⟩,a9,⟨HP.out.1.go b2,HP.out.2⟩,by omega,λho=>by
    obtain⟨a,n',c',e1,e2⟩:=(XW (h1.below b2 h1.lt)).1 ho
    rcases UH h2 with⟨e3,_⟩|⟨g,c,e3,_,e5⟩
    ·rw[e3]at e1;cases e1
    ·rw[e3]at e1;injection e1 with e1;injection e1 with e1;subst e1;simp only at e2;omega⟩
  clear rD a9 b1 o2 b2 bj h1 h2 h3 h4 h5 h6 bv HI HP;gi_wp2_with fail
  exact HK.out _ _ HF.out.1 HF.out.2.1 HF.out.2.2.1 ⟨D,rfl,HF.out.2.2.2⟩
 case body=>
  rintro l3 s x a' V bu _ ⟨v,h1,h2,h3,h4,h5,h6⟩ ⟨D,rfl,ar,⟨hT,a7⟩,hD,ao⟩ bl;obtain⟨Vd,a5⟩:∃Vd,Vd=V.drew:=⟨_,rfl⟩;have bd:Below V.heap.size V Vd:=by rw[a5];exact St.drew (S:=λW=>Below V.heap.size V W) (Below.refl _ _)
  have r1:=h1.below bd h1.lt;have own1:=QB h2 bd;have c1:=(h4.below bd h4.lt).cellv (i:=0) (v:=.pointer (some ⟨bk,0,none⟩)) rfl;have c6:=r1.cellv (i:=6) (v:=v) rfl;have z:=ar.below bd ar.lt;have bz:s.length<=20000:=by omega
  have an:v.ownBlock≠some D:=λe=>ao (by
   rcases UH h2 with⟨_,e4⟩|⟨g,c,e3,e4,_⟩
   ·rw[e4]at e;cases e
   ·rw[e4]at e;injection e with e;exact(XW h1).2 ⟨_,_,_,e3,e⟩)
  have ay:D≠bk:=λe=>by
   have h9:V.heap[bk]? =some (.cells x.cells 50 (0,0)):=by rw[<-e];exact ar
   rw[show V.heap[bk]? =some (.cells (Z5 p 0 1 v) 98 (0,0))from h1]at h9;injection h9 with h9;injection h9 with _ h9;exact absurd h9 (by decide)
  obtain⟨S,av⟩:∃S:World->Prop,S=(λW=>W.cell? ⟨T1,0,none⟩=some (.pointer (some ⟨bk,0,none⟩))/\Row W D 50 x.cells):=⟨_,rfl⟩;have bh:Hid (∀W,S W->W.cell? ⟨T1,0,none⟩=some (.pointer (some ⟨bk,0,none⟩))):=by show ∀W,_;rw[av];exact λW h=>h.1
  have br:Hid (∀W,S W->Row W D 50 x.cells):=by show ∀W,_;rw[av];exact λW h=>h.2
  have TS:Hid (∀W,Row W T1 96 #[.pointer (some ⟨bk,0,none⟩)]->Row W D 50 x.cells->S W):=by show ∀W,_;rw[av];exact λW h1 h2=>⟨h1.cellv (i:=0) rfl,h2⟩
  have hS:S Vd:=TS.out _ (h4.below bd h4.lt) z;have bq:=Lh a5;clear bl bu a7 c1 av a5;gi_wp2_with fail
  refine Acf (S:=S) (by kernel_rfl) (by kernel_rfl) ?_;simp only[Lk,Lc,Lo,Nat.reduceAdd,Li,Lj,Lp,Lm,Ll];have az:Vd=V.drew:=bq.out;rw[<-az];clear az;(refine tkH 0 (.pointer (some ⟨bk,0,none⟩)) rfl (Qd rfl (λW hW=>by((have c:=bh.out W hW;go_simp)))) ?_;simp only[Act.put,Qa,Qb,Qc]);(refine tkH 1 (.pointer (some ⟨bk,0,none⟩)) rfl (Qd rfl (λW hW=>by((have c:=bh.out W hW;go_simp)))) ?_;simp only[Act.put,Qa,Qb,Qc]);(refine tkH 2 (.pointer (some ⟨bk,0,none⟩)) rfl (Qd rfl (λW hW=>by(go_simp))) ?_;simp only[Act.put,Qa,Qb,Qc]);(refine tkH 3 (.pointer (some ⟨bk,6,none⟩)) rfl (Qd rfl (λW hW=>by(go_simp))) ?_;simp only[Act.put,Qa,Qb,Qc]);(refine tkH 5 _ rfl ((ZT rfl 50 _ rfl D rfl 50 x.cells _ (λW hW=>br.out W hW) Tryz.underlying50 rfl (by kernel_rfl))) ?_;simp only[Act.put,Qa,Qb,Qc]);refine wpAnyH_all (rs:=[4,6]) (by kernel_rfl) (by simp) (λi hi=>?_);have bt:i=4\/i=6:=by simpa using hi
  clear hi;rcases bt with rfl|rfl
  ·refine Qf rfl rfl (λK2 l=>?_);refine Qn (w1:=Vd) v (by have c:=c6;go_simp) ?_;refine l _ _ ?_;clear l K2;simp only[Act.put,Qa,Qb,Qc];refine⟨hS,?_⟩;(refine wpAnyH_all (rs:=[6]) (by kernel_rfl) (by simp) (λi hi=>?_);obtain rfl:i=6:=by simpa using hi);refine Qf rfl rfl (λK2 l=>?_);refine Qn (.slice (some ⟨Vd.heap.size,0,none⟩) 1 1) (Q0 [(0,.tmp 11)] rfl (Z8 (cells:=x.cells) Tryz.underlying44 Adl (by decide) (by decide) (by kernel_rfl) Vd)) ?_;refine l _ _ ?_;clear l K2;simp only[Act.put,Qa,Qb,Qc];obtain⟨M,hM⟩:∃M,M=Vd.heap.size:=⟨_,rfl⟩;obtain⟨V2,ae⟩:∃V2,V2=Vd.alloc (.cells x.cells 50):=⟨_,rfl⟩;have Mr:Row V2 M 50 x.cells:=by rw[ae,hM];exact Row.new _ _ _
   have Mb:Below M Vd V2:=by rw[ae,hM];exact(Below.refl _ _).alloc (Nat.le_refl _) _
   have Mh:Vd.heap.size<=M:=LD hM.symm;rw[<-hM, <-ae];clear hM ae;have au:S V2:=TS.out _ ((h4.below bd h4.lt).below (Mb.mono Mh) (h4.below bd h4.lt).lt) (z.below (Mb.mono Mh) z.lt);refine⟨au,?_⟩;have bm:=bd.trans ((Mb.mono Mh).mono bd.size);have d:=QB own1 (Mb.mono Mh);have r2:=r1.below (Mb.mono Mh) r1.lt;have ai:B<=V2.heap.size:=by have:=r2.lt;omega
   have ap:B<=V.heap.size:=by have:=h1.lt;omega
   obtain⟨v3,V3,ah,u,q,aq⟩:=ZA (P:=Tryz.prog) 44 50 (.agg #[.slice none 0 0,.int .i64 0,.int .i64 0]) 3 40 Tryz.underlying44 Ab1 rfl (by decide) (by decide) d ai (Jz (cs:=x.cells.toList) (by simpa using Mr)) (m:=1) (cap:=1) rfl (Ac9 x) (by simp) (by omega);obtain⟨ak,rf⟩:=KpB.put (L:=λi=>i=w2.heap.size+1) r2 d q u aq;have r3:=r2.grown q (Qz d r2 (by decide));have o4:=Zl V3 bk 6 v3;have ab:=Qx u o4 (Qz u r3 (by decide));have aa:∀y,DlT V y->DlT (V3.setCell ⟨bk,6,none⟩ v3) y:=λy hy=>((hy.go bm).own d q).only r3 (by decide) o4;have ac:=h4.below bm h4.lt;have al:=(ac.grown q (Qz d ac (by decide))).only o4 (by omega);have b3:=QL (h5.trans (bm.mono ap)) d q ai (Nat.le_refl _);have a8:V.heap.size<=(V3.setCell ⟨bk,6,none⟩ v3).heap.size:=Ld bm.size ak.size;rw[<-Abd]at ab
   have HF:Hid (KeepsFrom w2.heap.size V (V3.setCell ⟨bk,6,none⟩ v3)/\KpB bk (λi=>i=w2.heap.size+1) V (V3.setCell ⟨bk,6,none⟩ v3)/\∃v,Row (V3.setCell ⟨bk,6,none⟩ v3) bk 98 (Z5 p 0 1 v)/\(V3.setCell ⟨bk,6,none⟩ v3).ownsRow B 50 3 v (s++[x]).length (Yb (s++[x]))/\(∀y∈s++[x],DlT (V3.setCell ⟨bk,6,none⟩ v3) y)/\Row (V3.setCell ⟨bk,6,none⟩ v3) T1 96 #[.pointer (some ⟨bk,0,none⟩)]/\Below B w0 (V3.setCell ⟨bk,6,none⟩ v3)/\w2.heap.size<=(V3.setCell ⟨bk,6,none⟩ v3).heap.size):=
    ⟨((KpX.of_below bm).keeps (X:=λ_=>False) (λ_ h=>h.elim)).trans ((KeepsFrom.of_own d q).trans (KeepsFrom.of_only r3 o4)),(KpB.of_below h1.lt bm).trans ak,v3,rf,by rw[Le];exact ab,λy hy=>by
     rcases L2.1 hy with hy|hy
     ·exact aa y (h3 y hy)
     ·rw[Lv.1 hy];exact aa x hT,al,Qp b3 o4 hB,by omega⟩
   obtain⟨A3,m3,d3,rfl⟩:=ZC u;have c6:=r3.cellv (i:=6) (v:=v) rfl;have f6:=r3.free 6;have af:=Lh ah;have a2:S V3:=TS.out _ (ac.grown q (Qz d ac (by decide))) ((z.below (Mb.mono Mh) z.lt).grown q an);have a3:S (V3.setCell ⟨bk,6,none⟩ (.slice A3 m3 d3)):=TS.out _ al (((z.below (Mb.mono Mh) z.lt).grown q an).only o4 ay);clear ah own1 d u ab q aq ak rf r1 r2 r3 o4 aa ac al b3 a8 bm bd Mr Mb Mh h1 h2 h3 h4 h5 h6 hT ar hD z an ai ap;(refine wpAnyH_all (rs:=[7]) (by kernel_rfl) (by simp) (λi hi=>?_);obtain rfl:i=7:=by simpa using hi);refine Qf rfl rfl (λK2 l=>?_);refine Qn _ (QE rfl af.out) ?_;refine l _ _ ?_;clear l K2 af;simp only[Act.put,Qa,Qb,Qc];refine⟨a2,?_⟩;(refine tkH 8 (.pointer (some ⟨bk,0,none⟩)) rfl (Qd rfl (λW hW=>by(go_simp))) ?_;simp only[Act.put,Qa,Qb,Qc]);(refine tkH 9 (.pointer (some ⟨bk,6,none⟩)) rfl (Qd rfl (λW hW=>by(go_simp))) ?_;simp only[Act.put,Qa,Qb,Qc]);(refine wpAnyH_all (rs:=[10]) (by kernel_rfl) (by simp) (λi hi=>?_);obtain rfl:i=10:=by simpa using hi);refine Qf rfl rfl (λK2 l=>?_);unfold Oper.wp;go_simp
   refine l _ _ ?_;clear l K2;simp only[Qa,Qb,Qc];refine⟨a3,?_⟩;refine wpAnyH_done (by kernel_rfl) ?_ _;refine YB ?_;gi_wp2_with fail
   exact HF.out
  ·refine Qf rfl rfl (λK2 l=>?_);refine Qn (.slice (some ⟨Vd.heap.size,0,none⟩) 1 1) (Q0 [(0,.tmp 11)] rfl (Z8 (cells:=x.cells) Tryz.underlying44 Adl (by decide) (by decide) (by kernel_rfl) Vd)) ?_;refine l _ _ ?_;clear l K2;simp only[Act.put,Qa,Qb,Qc];obtain⟨M,hM⟩:∃M,M=Vd.heap.size:=⟨_,rfl⟩;obtain⟨V2,ae⟩:∃V2,V2=Vd.alloc (.cells x.cells 50):=⟨_,rfl⟩;have Mr:Row V2 M 50 x.cells:=by rw[ae,hM];exact Row.new _ _ _
   have Mb:Below M Vd V2:=by rw[ae,hM];exact(Below.refl _ _).alloc (Nat.le_refl _) _
   have Mh:Vd.heap.size<=M:=LD hM.symm;rw[<-hM, <-ae];clear hM ae;have au:S V2:=TS.out _ ((h4.below bd h4.lt).below (Mb.mono Mh) (h4.below bd h4.lt).lt) (z.below (Mb.mono Mh) z.lt);refine⟨au,?_⟩;have bi:=(r1.below (Mb.mono Mh) r1.lt).cellv (i:=6) (v:=v) rfl;(refine wpAnyH_all (rs:=[4]) (by kernel_rfl) (by simp) (λi hi=>?_);obtain rfl:i=4:=by simpa using hi);refine Qf rfl rfl (λK2 l=>?_);refine Qn (w1:=V2) v (by have c:=bi;go_simp) ?_;refine l _ _ ?_;clear l K2 bi;simp only[Act.put,Qa,Qb,Qc];refine⟨au,?_⟩;have bm:=bd.trans ((Mb.mono Mh).mono bd.size);have d:=QB own1 (Mb.mono Mh);have r2:=r1.below (Mb.mono Mh) r1.lt;have ai:B<=V2.heap.size:=by have:=r2.lt;omega
   have ap:B<=V.heap.size:=by have:=h1.lt;omega
   obtain⟨v3,V3,ah,u,q,aq⟩:=ZA (P:=Tryz.prog) 44 50 (.agg #[.slice none 0 0,.int .i64 0,.int .i64 0]) 3 40 Tryz.underlying44 Ab1 rfl (by decide) (by decide) d ai (Jz (cs:=x.cells.toList) (by simpa using Mr)) (m:=1) (cap:=1) rfl (Ac9 x) (by simp) (by omega);obtain⟨ak,rf⟩:=KpB.put (L:=λi=>i=w2.heap.size+1) r2 d q u aq;have r3:=r2.grown q (Qz d r2 (by decide));have o4:=Zl V3 bk 6 v3;have ab:=Qx u o4 (Qz u r3 (by decide));have aa:∀y,DlT V y->DlT (V3.setCell ⟨bk,6,none⟩ v3) y:=λy hy=>((hy.go bm).own d q).only r3 (by decide) o4;have ac:=h4.below bm h4.lt;have al:=(ac.grown q (Qz d ac (by decide))).only o4 (by omega);have b3:=QL (h5.trans (bm.mono ap)) d q ai (Nat.le_refl _);have a8:V.heap.size<=(V3.setCell ⟨bk,6,none⟩ v3).heap.size:=Ld bm.size ak.size;rw[<-Abd]at ab
   have HF:Hid (KeepsFrom w2.heap.size V (V3.setCell ⟨bk,6,none⟩ v3)/\KpB bk (λi=>i=w2.heap.size+1) V (V3.setCell ⟨bk,6,none⟩ v3)/\∃v,Row (V3.setCell ⟨bk,6,none⟩ v3) bk 98 (Z5 p 0 1 v)/\(V3.setCell ⟨bk,6,none⟩ v3).ownsRow B 50 3 v (s++[x]).length (Yb (s++[x]))/\(∀y∈s++[x],DlT (V3.setCell ⟨bk,6,none⟩ v3) y)/\Row (V3.setCell ⟨bk,6,none⟩ v3) T1 96 #[.pointer (some ⟨bk,0,none⟩)]/\Below B w0 (V3.setCell ⟨bk,6,none⟩ v3)/\w2.heap.size<=(V3.setCell ⟨bk,6,none⟩ v3).heap.size):=
    ⟨((KpX.of_below bm).keeps (X:=λ_=>False) (λ_ h=>h.elim)).trans ((KeepsFrom.of_own d q).trans (KeepsFrom.of_only r3 o4)),(KpB.of_below h1.lt bm).trans ak,v3,rf,by rw[Le];exact ab,λy hy=>by
     rcases L2.1 hy with hy|hy
     ·exact aa y (h3 y hy)
     ·rw[Lv.1 hy];exact aa x hT,al,Qp b3 o4 hB,by omega⟩
   obtain⟨A3,m3,d3,rfl⟩:=ZC u;have c6:=r3.cellv (i:=6) (v:=v) rfl;have f6:=r3.free 6;have af:=Lh ah;have a2:S V3:=TS.out _ (ac.grown q (Qz d ac (by decide))) ((z.below (Mb.mono Mh) z.lt).grown q an);have a3:S (V3.setCell ⟨bk,6,none⟩ (.slice A3 m3 d3)):=TS.out _ al (((z.below (Mb.mono Mh) z.lt).grown q an).only o4 ay);clear ah own1 d u ab q aq ak rf r1 r2 r3 o4 aa ac al b3 a8 bm bd Mr Mb Mh h1 h2 h3 h4 h5 h6 hT ar hD z an ai ap;(refine wpAnyH_all (rs:=[7]) (by kernel_rfl) (by simp) (λi hi=>?_);obtain rfl:i=7:=by simpa using hi);refine Qf rfl rfl (λK2 l=>?_);refine Qn _ (QE rfl af.out) ?_;refine l _ _ ?_;clear l K2 af;simp only[Act.put,Qa,Qb,Qc];refine⟨a2,?_⟩;(refine tkH 8 (.pointer (some ⟨bk,0,none⟩)) rfl (Qd rfl (λW hW=>by(go_simp))) ?_;simp only[Act.put,Qa,Qb,Qc]);(refine tkH 9 (.pointer (some ⟨bk,6,none⟩)) rfl (Qd rfl (λW hW=>by(go_simp))) ?_;simp only[Act.put,Qa,Qb,Qc]);(refine wpAnyH_all (rs:=[10]) (by kernel_rfl) (by simp) (λi hi=>?_);obtain rfl:i=10:=by simpa using hi);refine Qf rfl rfl (λK2 l=>?_);unfold Oper.wp;go_simp
   refine l _ _ ?_;clear l K2;simp only[Qa,Qb,Qc];refine⟨a3,?_⟩;refine wpAnyH_done (by kernel_rfl) ?_ _;refine YB ?_;gi_wp2_with fail
   exact HF.out
 case done=>
  rintro D ys W hD bo ⟨v,h1,h2,h3,h4,h5, -⟩ hK;have HK:=Lh hK;have hr:∀r,some D=some r->False\/(True/\∃o:Obj,W.heap[r]? =some o/\o.isCells=false):=λr e=>by cases e;exact .inr ⟨trivial,_,hK,rfl⟩
  have hg:=grownBy_putObj' W D (.deferred none);have HF:Hid (∃v,Row (W.putObj D (.deferred none)) bk 98 (Z5 p 0 1 v)/\FillD p bk B ag w0 v (W.putObj D (.deferred none))):=⟨v,h1.abide hg hr,ys,h2.kept hg (.inr (Jd h2 hK rfl)),bo,λx hx=>(h3 x hx).abide hg hr,h5.grown hg (by have:=h1.lt;omega) (λk e=>by cases e;omega)⟩;clear hK hr hg h1 h2 h3 h4 h5 bo;gi_wp2;refine⟨by simp,.inl ⟨_,_,rfl,run_takeDeferred HK.out,?_⟩⟩;exact⟨_,results_none rfl _ _ _,rfl,HF.out⟩
end Go.Proofs.YtkoikjnlpifbjaaGreat
namespace Go.Proofs.YtkoikjnlpifbjaaGreat
open Go.RowKit Go.Deep
theorem Ajp (p:PgV)(t:Tr)(hf:Fine p t)(hlc:p.body.length<=p.bcap)(hcm:p.bcap<=maxLen)(bk B:Nat)(hB:B<=bk)(w0 w:World)(hbw:Below B w0 w)(hr:Row w bk 98 (Z5 p 0 0 (.slice none 0 0)))
 (hrd:Rd w p.ba (p.body.flatMap Nd.cells)) (hA:p.body.flatMap Nd.cells≠[]->∀ad,p.ba=some ad->ad.block≠bk):
 Calls Tryz.prog 34 #[.pointer (some ⟨bk,0,none⟩)] w λe w'=>∃v,e=.returned v/\FillD p bk B (Ze p.body t) w0 v w':=by
 have o1:=Zl w bk 4 (.int .i32 1);have hF:=Aia p t hf hlc hcm bk B hB w0 (w.setCell ⟨bk,4,none⟩ (.int .i32 1)) (Qp hbw o1 hB) (hr.set 4 _) (hrd.only o1 hA) hA;have z:=Lh (AeR bk p (.slice none 0 0) (FillD p bk B (Ze p.body t) w0) w hr hF);have Hr:=Lh hr;clear hf hlc hcm hbw hr hrd hA hF o1;obtain⟨d,g⟩:∃d,d=Ze p.body t:=⟨_,rfl⟩;rw[<-g]at z|-;clear g;have aa:∀(fn:Fn) (first j:Array Value) (w:World),(Instr.makeFunc fn first j).run Tryz.prog w=.ok (.func fn first j) w:=λ_ _ _ _=>rfl
 go_enter Tryz.func34,Tryz.ntmps34
 go_wp2_with fail
 refine z.out.mono ?_;rintro e w' ⟨rfl,v,c,r1,⟨xs,h1,h2,h3,h4⟩,hw⟩;have k:Row c.drew bk 98 (Z5 p 0 1 v):=r1;have h:Below c.heap.size c c.drew:=St.drew (S:=λW=>Below c.heap.size c W) (Below.refl _ _);have m:=QB h1 h;have o:∀x∈xs,DlT c.drew x:=λx hx=>(h3 x hx).go h
 have q:Below B w0 c.drew:=h4.trans (h.mono (by have:=r1.lt;omega));have s:=Zl c.drew bk 3 (.int .u32 1);have y:Row (c.drew.setCell ⟨bk,3,none⟩ (.int .u32 1)) bk 98 (Z5 p 1 1 v):=k.set 3 _;have l:=Qx m s (Qz m k (by decide));have u:=Zl (c.drew.setCell ⟨bk,3,none⟩ (.int .u32 1)) bk 4 (.int .i32 0);have r3:Row ((c.drew.setCell ⟨bk,3,none⟩ (.int .u32 1)).setCell ⟨bk,4,none⟩ (.int .i32 0)) bk 98 (Z5 p 1 0 v):=y.set 4 _;have n:=Qx l u (Qz l y (by decide));have HF:Hid (FillD p bk B d w0 v ((c.drew.setCell ⟨bk,3,none⟩ (.int .u32 1)).setCell ⟨bk,4,none⟩ (.int .i32 0))):=⟨xs,n,h2,λx hx=>((o x hx).only k (by decide) s).only y (by decide) u,Qp (Qp q s hB) u hB⟩;rw[<-hw]at r3 HF;obtain⟨A,j,rfl⟩:=Zq h1;have c6:=r3.cellv (i:=6) (v:=.slice A xs.length j) rfl;clear h1 h2 h3 h4 hw r1 k h m o q s y l u r3 n z Hr;go_wp2_with fail
 go_ret
 exact⟨_,rfl,HF.out⟩
structure AllR (p:PgV)(w w':World)(e:Ending):Prop where
 ex:∃(A:Option Addr) (cap:Nat) (xs:List DlV),e=.returned (.tuple #[.slice A xs.length cap,.int .i64 (QX p)])/\Rd w' A (Yb xs)/\xs.length<=cap/\(A=none->xs=[])/\(∀x∈xs,DlT w' x)/\(∀t,Fine p t->xs.map DlV.d=Ze p.body t)/\(QX p≠0->xs=[])/\xs.length<=20000/\Below w.heap.size w w'
structure AllT (p:PgV)(w w':World)(e:Ending):Prop where
 ex:∃(A:Option Addr) (cap:Nat) (xs:List DlV),e=.returned (.tuple #[.slice A xs.length cap,.int .i64 (QX p)])/\Rd w' A (Yb xs)/\xs.length<=cap/\(A=none->xs=[])/\(∀x∈xs,DlT w' x)/\(∀t,Fine p t->xs.map DlV.d=Ze p.body t)/\(QX p≠0->xs=[])/\xs.length<=20000/\Below w.heap.size w w'/\∀ad,A=some ad->∃cs:Array Value,Row w' ad.block 50 cs
theorem AllT.r{p:PgV}{w w':World}{e:Ending}(h:AllT p w w' e):AllR p w w' e:=by
 obtain⟨A,c,q,d,g,i,j,k,l,m,n,o,_⟩:=h;exact⟨A,c,q,d,g,i,j,k,l,m,n,o⟩
theorem AiG{w:World}{base size n m c:Nat}{e:TypeId}{A:Option Addr}{xs:List Value}(h:w.ownsRow base e size (.slice A m c) n xs):∀ad,A=some ad->∃cs:Array Value,Row w ad.block e cs:=λad ha=>by
 rcases h.2 with⟨i,_⟩|⟨g,c,d,i,k,j,_⟩
 ·injection i with e3;rw[ha]at e3;cases e3
 ·injection i with e3;rw[ha]at e3;injection e3 with e3;rw[e3];exact⟨d,j⟩
theorem Ake{w:World}{base n:Nat}{e:TypeId}{v:Value}{xs:List Value}(h:w.ownsRow base e 3 v n xs):∃A cap,v=.slice A n cap/\Rd w A xs/\n<=cap/\(A=none->n=0):=by
 obtain⟨A,cap,rfl⟩:=Zq h;refine⟨A,cap,rfl,XC h,?_⟩;rcases h.2 with⟨d,j⟩|⟨g,c,i,d,_,_,k,_⟩
 ·injection d with d e2 e3;exact⟨by omega,λ_=>j⟩
 ·injection d with d e2 e3;subst d e3;exact⟨k,λe=>by cases e⟩
theorem Ub (p:PgV)(hbl:p.body.length<=1000)(w:World)(hok:p.ok w):
 Calls Tryz.prog 15 #[.agg p.cells] w λe w'=>AllT p w w' e:=by
 have y:=Lh hbl;have aa:=Lh hok;clear hbl hok;go_enter Tryz.func15,Tryz.ntmps15
 go_wp2_with (refine Qq _ _ rfl ?_)
 refine Stop.to ?_;refine Qe rfl 25 _ rfl p.cells rfl ?_;intro G Gw Gh i Gb;have d:=(Below.refl w.heap.size w).trans (Gb.mono Gh);have c:=Lh (aa.out.go d);have j:=Lh (Ui p y.out Gw c.out);clear Gb Gh;go_wp2_with (refine wpList_load_row rfl 25 _ rfl G rfl 25 p.cells (0,0) _ i Tryz.underlying25 rfl (by kernel_rfl) ?_)
 refine j.out.mono ?_;rintro e w1 ⟨rfl,n⟩;replace i:=i.below n i.lt;replace d:=d.trans (n.mono d.size);replace c:=Lh (c.out.go n);clear n j;obtain⟨k,g⟩:∃k,k=QX p:=⟨_,rfl⟩;by_cases o:k=0;rotate_left
 ·have s:Hid (AllT p w w1 (.returned (.tuple #[.slice none 0 0,.int .i64 k]))):=⟨none,0,[],by rw[g];rfl,Rd.nil _ _,Nat.le_refl _,λ_=>rfl,λx hx=>by simp at hx,λt q=>absurd (checkP_ok.2 ⟨t,q⟩) (by rw[<-g];exact o),λ_=>rfl,by simp,d,λad e=>by cases e⟩;have e0:(k != 0)=true:=by simpa using o
  rw[<-g];clear g o;go_wp2_with fail
  refine bodyPost_ret (results_tmp2 rfl _ _ _) rfl ?_;exact s.out
 subst o;obtain⟨t,q⟩:=checkP_ok.1 g.symm;rw[<-g];have z:=Lh g;have m:=Lh q;clear g q;go_wp2_with (first| (refine Qq _ _ rfl ?_)| (refine wpList_load_row rfl 25 _ rfl G rfl 25 #[.int .i64 p.params,.slice p.va p.V.length p.vcap,.slice p.ba p.body.length p.bcap] (0,0) _ i Tryz.underlying25 rfl (by kernel_rfl) ?_))
 refine Stop.to ?_;refine Qe rfl 98 _ rfl (Z5 p 0 0 (.slice none 0 0)) rfl ?_;intro K Kw Kh Kr Kb;have b3:=d.trans ((Kb.mono Kh).mono d.size);have b4:=(Below.refl w1.heap.size w1).trans (Kb.mono Kh);have j:=Lh (Ajp p t m.out c.out.blen c.out.bmax K w.heap.size (by have:=d.size;omega) w Kw b3 Kr (c.out.brd.go b4) (λab ad e=>by have:=KY c.out.brd ab e;omega));clear i Kr Kb b3 b4 d c;go_wp2_with fail
 refine j.out.mono ?_;rintro e w2 ⟨v,rfl,xs,h1,h2,h3,h4⟩;obtain⟨A,l,rfl,hr,hc,hn⟩:=Ake h1;have hl:xs.length<=20000:=by have:=AfJ m.out;rw[<-h2,Lu]at this;exact this
 have s:Hid (AllT p w w2 (.returned (.tuple #[.slice A xs.length l,.int .i64 0]))):=⟨A,l,xs,by rw[<-z.out],hr,hc,λe=>Lt (hn e),h3,λu hu=>by rw[h2,m.out.good.whole.uniq hu.good.whole],λh=>absurd z.out.symm h,hl,h4,AiG h1⟩;clear h1 h2 h3 h4 hr hc hn hl j z m;go_wp2_with fail
 refine bodyPost_ret (results_tmp2 rfl _ _ _) rfl ?_;exact s.out
theorem Yn (p:PgV)(hbl:p.body.length<=1000)(w:World)(hok:p.ok w):
 Calls Tryz.prog 15 #[.agg p.cells] w λe w'=>AllR p w w' e:=(Ub p hbl w hok).mono λ_ _ h=>h.r
end Go.Proofs.YtkoikjnlpifbjaaGreat
