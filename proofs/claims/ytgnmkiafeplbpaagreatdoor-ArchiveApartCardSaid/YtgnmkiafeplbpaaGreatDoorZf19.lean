/- Lemmas for ArAll. -/
import Derived.Test.YtgnmkiafeplbpaaGreatDoorZf1
import Derived.Test.YtgnmkiafeplbpaaGreatDoorZf18
set_option linter.unusedVariables false
set_option linter.unusedSimpArgs false
set_option maxRecDepth 100000
set_option maxHeartbeats 16000000
namespace Go.Proofs.YtgnmkiafeplbpaaGreatDoor
open Go.RowKit Go.Deep
attribute [local go_sem] Oper.semAt_some
theorem Adt{P:Program}{r:Nat}{id:Nat}{Q:Exit->Act->World->Prop}{a:Act}{w:World}{l:List Oper}{S:World->Prop}(hm:P.follows .mixedOrders=true)(hd:Yg l.toArray=true)(h:wpAnyH P .any l.toArray (Ends Q) S l.toArray.size (Array.replicate l.toArray.size false) a w.drew):(Code.region id l.toArray true).wpIn (Fence.wide.inRound r) 0 P Q a w:=
 YV hm hd (wpAny_of_held _ _ _ _ h)
theorem U7{w:World}{base size n:Nat}{e:TypeId}{v:Value}{xs:List Value}(h:w.ownsRow base e size v n xs):(v=.slice none 0 0/\v.ownBlock=none)\/∃g cap,v=.slice (some ⟨g,0,none⟩) n cap/\v.ownBlock=some g/\g<w.heap.size:=by
 rcases h.2 with⟨rfl,c⟩|⟨g,cap,a,rfl,_,b,_⟩
 ·exact .inl ⟨rfl,rfl⟩
 ·exact .inr ⟨g,cap,rfl,rfl,(Lt.1 b).1⟩
theorem XY{bk:Nat}{W:World}{p:PgV}{dn st:Int}{v:Value}(h:Row W bk 177 (ZP p dn st v)){k:Nat}:Ob bk W k<->∃a n c,v=.slice (some a) n c/\a.block=k:=by
 have b:W.cell? ⟨bk,6,none⟩=some v:=h.cellv (i:=6) rfl;unfold Ob;rw[b];simp only[Option.some.injEq]
theorem KpB.put{bk:Nat}{L:Nat->Prop}{A B:World}{p:PgV}{v v':Value}{lim n m:Nat}{xs ys:List Value}(hr:Row A bk 177 (ZP p 0 1 v))(h:A.ownsRow lim 91 3 v n xs)(hg:A.grownBy B v.ownBlock)
 (h':B.ownsRow lim 91 3 v' m ys) (hat:v'.ownBlock=v.ownBlock\/v'.ownBlock=some A.heap.size):KpB bk L A (B.setCell ⟨bk,6,none⟩ v')/\Row (B.setCell ⟨bk,6,none⟩ v') bk 177 (ZP p 0 1 v'):=by
 have u:=hr.grown hg (QK h hr (by decide));have d:Row (B.setCell ⟨bk,6,none⟩ v') bk 177 (ZP p 0 1 v'):=u.set 6 v';have o:=Qu B bk 6 v'
 have x:∀k,v.ownBlock=some k->Ob bk A k:=λk e=>by
  rcases U7 h with⟨_,i⟩|⟨g,c,b,i,_⟩
  ·rw[i]at e;cases e
  ·rw[i]at e;injection e with e;subst e;exact(XY hr).2 ⟨_,_,_,b,rfl⟩
 have s:∀k,Ob bk (B.setCell ⟨bk,6,none⟩ v') k->v'.ownBlock=some k/\k<B.heap.size:=λk q=>by
  obtain⟨a,n',c',b,i⟩:=(XY d).1 q;rcases U7 h' with⟨t,_⟩|⟨g,c,t,y,z⟩
  ·rw[t]at b;cases b
  ·rw[t]at b;injection b with b;injection b with b;subst b;subst i;exact⟨y,z⟩
 refine⟨⟨λk ob l _ h3 w=>?_,?_,λk q=>?_,λ_ k q=>?_,λj hj=>?_⟩,d⟩
 ·rw[o.block k l];exact(hg.block k (Lt.1 w).1 (λe=>h3 (x k e.symm))).trans w
 ·rw[o.size];exact hg.size
 ·obtain⟨e,_⟩:=s k q;rcases hat with l|l
  ·rw[l]at e;exact .inl (x k e)
  ·rw[l]at e;injection e with e;exact .inr (LI e)
 ·rw[o.size];exact(s k q).2
 ·rw[d.cell j,hr.cell j]
  match j,hj with
  |0,_|1,_|2,_|3,_|4,_|5,_=>rfl
  |j+7,_=>simp[ZP]
theorem DlT.same{A B:World}{x:DlV}(h:DlT A x)(hb:∀(a:Addr) (cs:Array Value),x.A=some a->Row A a.block 3 cs->Row B a.block 3 cs):DlT B x:=
 ⟨⟨λj u hj=>by
  obtain⟨a,e,hc⟩:=h.ok.rd j u hj
  obtain⟨cs,hr⟩:=h.ib a e
  exact⟨a,e,(World.cell?_of_block (by rw[JU];exact(hb a cs e hr).trans (Eq.symm hr))).trans hc⟩,h.ok.len⟩,λa e=>by
  obtain⟨cs,hr⟩:=h.ib a e
  exact⟨cs,hb a cs e hr⟩,h.nil⟩
theorem DlT.go{A B:World}{x:DlV}(h:DlT A x)(b:Below A.heap.size A B):DlT B x:=h.same λ_ _ _ hr=>hr.below b hr.lt
theorem DlT.abide{W W':World}{x:DlV}{row:Option Nat}{q:Nat->Prop}(h:DlT W x)(hg:W.grownBy W' row)(hr:∀r,row=some r->False\/(q r/\∃o:Obj,W.heap[r]? =some o/\o.isCells=false)):DlT W' x:=h.same λ_ _ _ k=>k.abide hg hr
theorem DlT.own{W W':World}{x:DlV}{lim n:Nat}{v:Value}{xs:List Value}(h:DlT W x)(hown:W.ownsRow lim 91 3 v n xs)(hg:W.grownBy W' v.ownBlock):DlT W' x:=h.same λ_ _ _ k=>k.grown hg (QK hown k (by decide))
theorem DlT.only{W W':World}{x:DlV}{g:Nat}{t:TypeId}{cs:Array Value}(h:DlT W x)(hr:Row W g t cs)(ht:t≠3)(o:Only g W W'):DlT W' x:=h.same λa cs' _ k=>k.only o (λe=>by
 have h1:W.heap[g]? =some (.cells cs' 3 (0,0)):=by rw[<-e];exact k
 rw[show W.heap[g]? =some (.cells cs t (0,0))from hr]at h1
 injection h1 with h1;injection h1 with _ h1;exact ht h1)
structure EachFn (bk:Nat)(w w':World)(e:Ending):Prop where
 ex:∃bb,e=.returned (.func (.func 257) #[] #[.pointer (some ⟨bb,0,none⟩)])/\Row w' bb 164 #[.pointer (some ⟨bk,0,none⟩)]/\w.heap.size<=bb/\Below w.heap.size w w'
theorem AfG (bk:Nat)(w:World):Calls Tryz.prog 237 #[.pointer (some ⟨bk,0,none⟩)] w λe w'=>EachFn bk w w' e:=by
 go_enter Tryz.func237,Tryz.ntmps237
 go_wp2_with (refine Qx _ _ rfl ?_)
 refine Stop.to ?_;refine Qf rfl 164 _ rfl #[.pointer (some ⟨bk,0,none⟩)] rfl ?_;intro G g b c a;have d:=(Below.refl w.heap.size w).trans (a.mono b);clear a;go_wp2
 go_ret
 exact⟨G,rfl,c,b,d⟩
structure FillD (p:PgV)(bk B:Nat)(full:List Dl)(w0:World)(v:Value)(W:World):Prop where
 ex:∃xs:List DlV,W.ownsRow B 91 3 v xs.length (XQ xs)/\xs.map DlV.d=full/\(∀x∈xs,DlT W x)/\Below B w0 W
theorem Ad5 (x:DlV):∀u∈x.cells.toList,u.oneCell'=true:=by
 intro u a;simp only[DlV.cells,L6,LJ,or_false]at a;rcases a with rfl|rfl|rfl<;>rfl
theorem Ab9 (xs:List DlV)(x:DlV):XQ (xs++[x])=XQ xs++x.cells.toList:=by simp[XQ]
theorem AeZ{p:PgV}{t:Tr}(hf:Fine p t):∀q,q<=p.body.length->(VD p.body t q).length<=100*q
 |0,_=>by simp[VD]
 |q+1,h=>by
  obtain⟨π,k,hp,hat⟩:=AgV hf.good.whole (q:=q) (by omega)
  have h1:=AeZ hf q (by omega)
  have h2:=UR p.body q hat (hf.ar _ (Li hat.root))
  rw[En hp,La,L7];omega
theorem Ags{p:PgV}{t:Tr}(hf:Fine p t):(KC p.body t).length<=20000:=by
 have a:=AeZ hf p.body.length (Nat.le_refl _);have b:=hf.len;rw[AeY _ _ (LI hf.good.size)]at a;omega
theorem Ajk (p:PgV)(t:Tr)(hf:Fine p t)(hlc:p.body.length<=p.bcap)(hcm:p.bcap<=maxLen)(bk B:Nat)(hB:B<=bk)(w0 w:World)(hbw:Below B w0 w)(hr:Row w bk 177 (ZP p 0 1 (.slice none 0 0)))
 (hrd:Rd w p.ba (p.body.flatMap Nd.cells)) (hA:p.body.flatMap Nd.cells≠[]->∀ad,p.ba=some ad->ad.block≠bk):
 Calls Tryz.prog 192 #[.pointer (some ⟨bk,0,none⟩)] w λe w'=>e=.returned (.tuple #[])/\∃v,Row w' bk 177 (ZP p 0 1 v)/\FillD p bk B (KC p.body t) w0 v w':=by
 have Hf:=Lv hf;have bh:=Lv hlc;have bf:=Lv hcm;have a2:=Lv hrd;have HA:=Lv hA;have bz:=hr.lt;have bt:=Ags hf;obtain⟨ag,aj⟩:∃ag,ag=KC p.body t:=⟨_,rfl⟩;rw[<-aj]at bt|-;clear hf hlc hcm hrd hA;refine(callsIn_wide (n:=0)).1 ?_;refine callsIn_of_wp_marks Tryz.func192 rfl trivial ?_;simp only[Tryz.ntmps192,Ly,Le,Ll,Nat.reduceAdd,Nat.reduceSub,Ln,Lp,Lz,LD,Lu,Lk];gi_wp2_with fail
 obtain⟨T1,a5⟩:∃B,B=w.heap.size:=⟨_,rfl⟩;obtain⟨w1,ay⟩:∃w1,w1=w.alloc (.cells #[.pointer (some ⟨bk,0,none⟩)] 164):=⟨_,rfl⟩;have rT:Row w1 T1 164 #[.pointer (some ⟨bk,0,none⟩)]:=by rw[ay,a5];exact Row.new _ _ _
 have b1:Below w.heap.size w w1:=by rw[ay];exact(Below.refl _ _).alloc (Nat.le_refl _) _
 rw[<-ay, <-a5];have gT:bk<T1:=by omega
 clear ay a5;refine⟨trivial,rfl,(callsIn_wide.2 (AfG bk w1)).mono ?_⟩;rintro e w2 ⟨bb,rfl,rb,gb,b2⟩;have lT:=rT.lt;have an:=b1.trans (b2.mono b1.size);replace rT:=rT.below b2 rT.lt;have r2:=hr.below an hr.lt;have s2:=r2.lt
 have ap:∀k,¬Ob bk w2 k:=λk ho=>by
  obtain⟨_,_,_,e,_⟩:=(XY r2).1 ho;cases e
 have hC:EachC p bk bb (λ_=>False) w2:=⟨rb,⟨by omega,λh=>h,ap _,rb.lt⟩,r2.cellv (i:=2) rfl,a2.out.go an,λbo ad e=>⟨HA.out bo ad e,λh=>h,ap _,X3 (a2.out.go an) bo e⟩,λk ho=>absurd ho (ap k),λ_ h=>False.elim h,s2⟩;have bg:=Lv (AfF p t Hf.out bh.out bf.out bk bb w2 hC);have be:Hid (Below B w0 w2):=hbw.trans (an.mono (by have:=hbw.size;have:=an.size;omega));have bx:T1<bb:=by omega
 have b4:=rb.lt;clear ap hC rb b1 b2 an hr gb lT hbw a2 HA Hf bh bf;gi_wp2_with fail
 rw[<-aj]at bg;have bq:Hid (∃v,Row w2 bk 177 (ZP p 0 1 v)/\w2.ownsRow B 91 3 v ([]:List DlV).length (XQ [])/\(∀x∈([]:List DlV),DlT w2 x)/\Row w2 T1 164 #[.pointer (some ⟨bk,0,none⟩)]/\Below B w0 w2/\w2.heap.size<=w2.heap.size):=⟨_,r2,World.ownsRow_nil _ _ _ _,λx h=>by simp at h,rT,be.out,Nat.le_refl _⟩;clear r2 rT be aj
 refine YU (gf:=257) (lb:=#[.pointer (some ⟨bb,0,none⟩)]) rfl (enters_of Tryz.func257 (by kernel_rfl) rfl) bg.out (λr h=>h.elim)
  (λh k=>h.trans k) (λV o o' ho hc=>?hKb) (World.grownBy.refl _ _) (λ_=>rfl)
  (λq V=>∃v,Row V bk 177 (ZP p 0 1 v)/\V.ownsRow B 91 3 v q.length (XQ q)/\(∀x∈q,DlT V x)/\Row V T1 164 #[.pointer (some ⟨bk,0,none⟩)]/\Below B w0 V/\w2.heap.size<=V.heap.size)
  (λ_ _ _=>False) (.inl trivial) ?hI ?hIx bq.out
  (λq x a' V=>∃D,a'={ tmps:=#[.pointer (some ⟨bk,0,none⟩),.pointer (some ⟨T1,0,none⟩),.pointer (some ⟨D,0,none⟩),.pointer (some ⟨bk,0,none⟩),.func (.func 257) #[] #[.pointer (some ⟨bb,0,none⟩)],.agg x.cells,undef,undef,undef,undef,undef,undef,undef,undef,undef,undef],defers:=[] }/\Row V D 91 x.cells/\DlP ag q x V/\w2.heap.size<=D/\¬Ob bk V D) ?hAx ?assign ?body ?done ?stop
 case hKb=>
  have a7:∀j,(V.putObj (w2.heap.size+1) o').cell? ⟨bk,j,none⟩=V.cell? ⟨bk,j,none⟩:=λj=>World.cell?_of_block (World.putObj_heap_other (by show bk≠_;omega));exact⟨λk ob _ h2 _ z=>by rw[World.putObj_heap_other (λe=>h2 e)];exact z,by simp,λk ho=>.inl (Ud (a7 6) ho),λhl k ho=>by have h9:=hl k (Ud (a7 6) ho);simpa using h9,λj _=>a7 j⟩
 case hI=>
  rintro q V V' row ⟨v,h1,h2,h3,z,h5,h6⟩ hg hr
  have a1:∀r,row=some r->w2.heap.size<=r/\v.ownBlock≠some r:=λr e=>by
   rcases hr r e with h|⟨h,o,ho,hc⟩
   ·exact h.elim
   ·exact⟨h,JC h2 ho hc⟩
  refine⟨v,h1.abide hg hr,h2.kept hg ?_,λx hx=>(h3 x hx).abide hg hr,z.abide hg hr,h5.grown hg (by have:=h1.lt;omega) (λk e=>by have:=(a1 k e).1;omega),Lj h6 hg.size⟩;cases row with
  |none=>cases v.ownBlock<;>simp
  |some r=>exact .inr (a1 r rfl).2
 case hIx=>exact λ_ _ _ _ _ h _ _=>h
 case hAx=>
  rintro q x a' _ V V' row ⟨D,h1,h2,⟨h3,h5⟩,z,h6⟩ hg hr;refine⟨D,h1,h2.abide hg hr,⟨h3.abide hg hr,h5⟩,z,λho=>h6 (Ud (World.cell?_of_block (hg.block bk (by have:=h2.lt;show bk<_;omega) (λe=>?_))) ho)⟩;rcases hr _ e.symm with h|⟨h,_⟩
  ·exact h
  ·have:w2.heap.size<=bk:=h;omega
 case stop=>exact λD c q W _ _ h _=>h.elim
 case assign=>
  rintro l3 q x V K hI hP hK;have HK:=Lv hK;have HI:=Lv hI;have HP:=Lv hP;clear hK hI hP;gi_wp2_with (refine Aak _ _ _ rfl ?_);refine Stop.to ?_;obtain⟨D,hD⟩:∃D,D=V.heap.size:=⟨_,rfl⟩;obtain⟨V1,ax⟩:∃V1,V1=V.alloc (.cells #[.slice none 0 0,.int .i64 0,.int .i64 0] 91):=⟨_,rfl⟩;have rD:Row V1 D 91 #[.slice none 0 0,.int .i64 0,.int .i64 0]:=by rw[ax,hD];exact Row.new _ _ _
  have b1:Below V.heap.size V V1:=by rw[ax];exact(Below.refl _ _).alloc (Nat.le_refl _) _
  rw[<-ax, <-hD];have bl:V.heap.size<=D:=LI hD.symm;clear ax hD;refine Zz rfl 91 _ _ rfl D x.cells rfl rfl 91 _ rD (by kernel_rfl) rfl (by simp[DlV.cells,Value.oneCell']) ?_;have bc:=rD.setRow x.cells;have o2:=ZY V1 D x.cells;have b2:Below V.heap.size V (V1.setRow D x.cells):=Ql b1 o2 bl;generalize V1.setRow D x.cells=V2 at bc o2 b2|-;obtain⟨v,h1,h2,h3,z,h5,h6⟩:=HI.out;have bw:=b2.size
  have HF:Hid (KeepsFrom w2.heap.size V V2/\KpB bk (λi=>i=w2.heap.size+1) V V2/\(∃v,Row V2 bk 177 (ZP p 0 1 v)/\V2.ownsRow B 91 3 v q.length (XQ q)/\(∀x∈q,DlT V2 x)/\Row V2 T1 164 #[.pointer (some ⟨bk,0,none⟩)]/\Below B w0 V2/\w2.heap.size<=V2.heap.size)/\Row V2 D 91 x.cells/\DlP ag q x V2/\w2.heap.size<=D/\¬Ob bk V2 D):=
   ⟨(KpX.of_below b2).keeps (X:=λ_=>False) (λ_ h=>h.elim),KpB.of_below h1.lt b2,⟨v,h1.below b2 h1.lt,QU h2 b2,λy hy=>(h3 y hy).go b2,z.below b2 z.lt,h5.trans (b2.mono (by have:=h1.lt;omega)),by omega⟩,bc,⟨HP.out.1.go b2,HP.out.2⟩,by omega,λho=>by
    obtain⟨a,n',c',e1,e2⟩:=(XY (h1.below b2 h1.lt)).1 ho
    rcases U7 h2 with⟨e3,_⟩|⟨g,c,e3,_,e5⟩
    ·rw[e3]at e1;cases e1
    ·rw[e3]at e1;injection e1 with e1;injection e1 with e1;subst e1;simp only at e2;omega⟩
  clear rD bc b1 o2 b2 bl h1 h2 h3 z h5 h6 bw HI HP;gi_wp2_with fail
  exact HK.out _ _ HF.out.1 HF.out.2.1 HF.out.2.2.1 ⟨D,rfl,HF.out.2.2.2⟩
 case body=>
  rintro l3 q x a' V bv _ ⟨v,h1,h2,h3,z,h5,h6⟩ ⟨D,rfl,au,⟨hT,a8⟩,hD,ap⟩ bn;obtain⟨Vd,a6⟩:∃Vd,Vd=V.drew:=⟨_,rfl⟩;have bd:Below V.heap.size V Vd:=by rw[a6];exact St.drew (S:=λW=>Below V.heap.size V W) (Below.refl _ _)
  have r1:=h1.below bd h1.lt;have am:=QU h2 bd;have c1:=(z.below bd z.lt).cellv (i:=0) (v:=.pointer (some ⟨bk,0,none⟩)) rfl;have c6:=r1.cellv (i:=6) (v:=v) rfl;have u:=au.below bd au.lt;have b0:q.length<=20000:=by omega
  have ao:v.ownBlock≠some D:=λe=>ap (by
   rcases U7 h2 with⟨_,e4⟩|⟨g,c,e3,e4,_⟩
   ·rw[e4]at e;cases e
   ·rw[e4]at e;injection e with e;exact(XY h1).2 ⟨_,_,_,e3,e⟩)
  have az:D≠bk:=λe=>by
   have h9:V.heap[bk]? =some (.cells x.cells 91 (0,0)):=by rw[<-e];exact au
   rw[show V.heap[bk]? =some (.cells (ZP p 0 1 v) 177 (0,0))from h1]at h9;injection h9 with h9;injection h9 with _ h9;exact absurd h9 (by decide)
  obtain⟨S,aw⟩:∃S:World->Prop,S=(λW=>W.cell? ⟨T1,0,none⟩=some (.pointer (some ⟨bk,0,none⟩))/\Row W D 91 x.cells):=⟨_,rfl⟩;have bi:Hid (∀W,S W->W.cell? ⟨T1,0,none⟩=some (.pointer (some ⟨bk,0,none⟩))):=by show ∀W,_;rw[aw];exact λW h=>h.1
  have bs:Hid (∀W,S W->Row W D 91 x.cells):=by show ∀W,_;rw[aw];exact λW h=>h.2
  have TS:Hid (∀W,Row W T1 164 #[.pointer (some ⟨bk,0,none⟩)]->Row W D 91 x.cells->S W):=by show ∀W,_;rw[aw];exact λW h1 h2=>⟨h1.cellv (i:=0) rfl,h2⟩
  have hS:S Vd:=TS.out _ (z.below bd z.lt) u;have br:=Lv a6;clear bn bv a8 c1 aw a6;gi_wp2_with fail
  refine Adt (S:=S) (by kernel_rfl) (by kernel_rfl) ?_;simp only[Ly,Le,Ll,Nat.reduceAdd,Ln,Lp,Lz,Lu,Lk];have a0:Vd=V.drew:=br.out;rw[<-a0];clear a0;(refine tkH 0 (.pointer (some ⟨bk,0,none⟩)) rfl (Qd rfl (λW hW=>by((have c:=bi.out W hW;go_simp)))) ?_;simp only[Act.put,Qa,Qb,Qc]);(refine tkH 1 (.pointer (some ⟨bk,0,none⟩)) rfl (Qd rfl (λW hW=>by((have c:=bi.out W hW;go_simp)))) ?_;simp only[Act.put,Qa,Qb,Qc]);(refine tkH 2 (.pointer (some ⟨bk,0,none⟩)) rfl (Qd rfl (λW hW=>by(go_simp))) ?_;simp only[Act.put,Qa,Qb,Qc]);(refine tkH 3 (.pointer (some ⟨bk,6,none⟩)) rfl (Qd rfl (λW hW=>by(go_simp))) ?_;simp only[Act.put,Qa,Qb,Qc]);(refine tkH 5 _ rfl ((AbB rfl 91 _ rfl D rfl 91 x.cells _ (λW hW=>bs.out W hW) Tryz.underlying91 rfl (by kernel_rfl))) ?_;simp only[Act.put,Qa,Qb,Qc]);refine wpAnyH_all (rs:=[4,6]) (by kernel_rfl) (by simp) (λi hi=>?_);have bu:i=4\/i=6:=by simpa using hi
  clear hi;rcases bu with rfl|rfl
  ·refine Qg rfl rfl (λK2 d=>?_);refine Qr (w1:=Vd) v (by have c:=c6;go_simp) ?_;refine d _ _ ?_;clear d K2;simp only[Act.put,Qa,Qb,Qc];refine⟨hS,?_⟩;(refine wpAnyH_all (rs:=[6]) (by kernel_rfl) (by simp) (λi hi=>?_);obtain rfl:i=6:=by simpa using hi);refine Qg rfl rfl (λK2 d=>?_);refine Qr (.slice (some ⟨Vd.heap.size,0,none⟩) 1 1) (Ja [(0,.tmp 11)] rfl (Kl (cells:=x.cells) Tryz.underlying87 Aem (by decide) (by decide) (by kernel_rfl) Vd)) ?_;refine d _ _ ?_;clear d K2;simp only[Act.put,Qa,Qb,Qc];obtain⟨M,hM⟩:∃M,M=Vd.heap.size:=⟨_,rfl⟩;obtain⟨V2,ae⟩:∃V2,V2=Vd.alloc (.cells x.cells 91):=⟨_,rfl⟩;have Mr:Row V2 M 91 x.cells:=by rw[ae,hM];exact Row.new _ _ _
   have Mb:Below M Vd V2:=by rw[ae,hM];exact(Below.refl _ _).alloc (Nat.le_refl _) _
   have Mh:Vd.heap.size<=M:=LI hM.symm;rw[<-hM, <-ae];clear hM ae;have av:S V2:=TS.out _ ((z.below bd z.lt).below (Mb.mono Mh) (z.below bd z.lt).lt) (u.below (Mb.mono Mh) u.lt);refine⟨av,?_⟩;have bm:=bd.trans ((Mb.mono Mh).mono bd.size);have b:=QU am (Mb.mono Mh);have r2:=r1.below (Mb.mono Mh) r1.lt;have ai:B<=V2.heap.size:=by have:=r2.lt;omega
   have aq:B<=V.heap.size:=by have:=h1.lt;omega
   obtain⟨v3,V3,ah,s,l,ar⟩:=Zq (P:=Tryz.prog) 87 91 (.agg #[.slice none 0 0,.int .i64 0,.int .i64 0]) 3 40 Tryz.underlying87 Adc rfl (by decide) (by decide) b ai (Z6 (cs:=x.cells.toList) (by simpa using Mr)) (m:=1) (cap:=1) rfl (Ad5 x) (by simp) (by omega);obtain⟨ak,rf⟩:=KpB.put (L:=λi=>i=w2.heap.size+1) r2 b l s ar;have r3:=r2.grown l (QK b r2 (by decide));have o4:=Qu V3 bk 6 v3;have ab:=Za s o4 (QK s r3 (by decide));have aa:∀y,DlT V y->DlT (V3.setCell ⟨bk,6,none⟩ v3) y:=λy hy=>((hy.go bm).own b l).only r3 (by decide) o4;have ac:=z.below bm z.lt;have al:=(ac.grown l (QK b ac (by decide))).only o4 (by omega);have b3:=QJ (h5.trans (bm.mono aq)) b l ai (Nat.le_refl _);have a9:V.heap.size<=(V3.setCell ⟨bk,6,none⟩ v3).heap.size:=Lj bm.size ak.size;rw[<-Ab9]at ab
   have HF:Hid (KeepsFrom w2.heap.size V (V3.setCell ⟨bk,6,none⟩ v3)/\KpB bk (λi=>i=w2.heap.size+1) V (V3.setCell ⟨bk,6,none⟩ v3)/\∃v,Row (V3.setCell ⟨bk,6,none⟩ v3) bk 177 (ZP p 0 1 v)/\(V3.setCell ⟨bk,6,none⟩ v3).ownsRow B 91 3 v (q++[x]).length (XQ (q++[x]))/\(∀y∈q++[x],DlT (V3.setCell ⟨bk,6,none⟩ v3) y)/\Row (V3.setCell ⟨bk,6,none⟩ v3) T1 164 #[.pointer (some ⟨bk,0,none⟩)]/\Below B w0 (V3.setCell ⟨bk,6,none⟩ v3)/\w2.heap.size<=(V3.setCell ⟨bk,6,none⟩ v3).heap.size):=
    ⟨((KpX.of_below bm).keeps (X:=λ_=>False) (λ_ h=>h.elim)).trans ((KeepsFrom.of_own b l).trans (KeepsFrom.of_only r3 o4)),(KpB.of_below h1.lt bm).trans ak,v3,rf,by rw[La];exact ab,λy hy=>by
     rcases LG.1 hy with hy|hy
     ·exact aa y (h3 y hy)
     ·rw[L8.1 hy];exact aa x hT,al,Ql b3 o4 hB,by omega⟩
   obtain⟨A3,m3,d3,rfl⟩:=Ji s;have c6:=r3.cellv (i:=6) (v:=v) rfl;have f6:=r3.free 6;have af:=Lv ah;have a3:S V3:=TS.out _ (ac.grown l (QK b ac (by decide))) ((u.below (Mb.mono Mh) u.lt).grown l ao);have a4:S (V3.setCell ⟨bk,6,none⟩ (.slice A3 m3 d3)):=TS.out _ al (((u.below (Mb.mono Mh) u.lt).grown l ao).only o4 az);clear ah am b s ab l ar ak rf r1 r2 r3 o4 aa ac al b3 a9 bm bd Mr Mb Mh h1 h2 h3 z h5 h6 hT au hD u ao ai aq;(refine wpAnyH_all (rs:=[7]) (by kernel_rfl) (by simp) (λi hi=>?_);obtain rfl:i=7:=by simpa using hi);refine Qg rfl rfl (λK2 d=>?_);refine Qr _ (QF rfl af.out) ?_;refine d _ _ ?_;clear d K2 af;simp only[Act.put,Qa,Qb,Qc];refine⟨a3,?_⟩;(refine tkH 8 (.pointer (some ⟨bk,0,none⟩)) rfl (Qd rfl (λW hW=>by(go_simp))) ?_;simp only[Act.put,Qa,Qb,Qc]);(refine tkH 9 (.pointer (some ⟨bk,6,none⟩)) rfl (Qd rfl (λW hW=>by(go_simp))) ?_;simp only[Act.put,Qa,Qb,Qc]);(refine wpAnyH_all (rs:=[10]) (by kernel_rfl) (by simp) (λi hi=>?_);obtain rfl:i=10:=by simpa using hi);refine Qg rfl rfl (λK2 d=>?_);unfold Oper.wp;go_simp
   refine d _ _ ?_;clear d K2;simp only[Qa,Qb,Qc];refine⟨a4,?_⟩;refine wpAnyH_done (by kernel_rfl) ?_ _;refine JW ?_;gi_wp2_with fail
   exact HF.out
  ·refine Qg rfl rfl (λK2 d=>?_);refine Qr (.slice (some ⟨Vd.heap.size,0,none⟩) 1 1) (Ja [(0,.tmp 11)] rfl (Kl (cells:=x.cells) Tryz.underlying87 Aem (by decide) (by decide) (by kernel_rfl) Vd)) ?_;refine d _ _ ?_;clear d K2;simp only[Act.put,Qa,Qb,Qc];obtain⟨M,hM⟩:∃M,M=Vd.heap.size:=⟨_,rfl⟩;obtain⟨V2,ae⟩:∃V2,V2=Vd.alloc (.cells x.cells 91):=⟨_,rfl⟩;have Mr:Row V2 M 91 x.cells:=by rw[ae,hM];exact Row.new _ _ _
   have Mb:Below M Vd V2:=by rw[ae,hM];exact(Below.refl _ _).alloc (Nat.le_refl _) _
   have Mh:Vd.heap.size<=M:=LI hM.symm;rw[<-hM, <-ae];clear hM ae;have av:S V2:=TS.out _ ((z.below bd z.lt).below (Mb.mono Mh) (z.below bd z.lt).lt) (u.below (Mb.mono Mh) u.lt);refine⟨av,?_⟩;have bj:=(r1.below (Mb.mono Mh) r1.lt).cellv (i:=6) (v:=v) rfl;(refine wpAnyH_all (rs:=[4]) (by kernel_rfl) (by simp) (λi hi=>?_);obtain rfl:i=4:=by simpa using hi);refine Qg rfl rfl (λK2 d=>?_);refine Qr (w1:=V2) v (by have c:=bj;go_simp) ?_;refine d _ _ ?_;clear d K2 bj;simp only[Act.put,Qa,Qb,Qc];refine⟨av,?_⟩;have bm:=bd.trans ((Mb.mono Mh).mono bd.size);have b:=QU am (Mb.mono Mh);have r2:=r1.below (Mb.mono Mh) r1.lt;have ai:B<=V2.heap.size:=by have:=r2.lt;omega
   have aq:B<=V.heap.size:=by have:=h1.lt;omega
   obtain⟨v3,V3,ah,s,l,ar⟩:=Zq (P:=Tryz.prog) 87 91 (.agg #[.slice none 0 0,.int .i64 0,.int .i64 0]) 3 40 Tryz.underlying87 Adc rfl (by decide) (by decide) b ai (Z6 (cs:=x.cells.toList) (by simpa using Mr)) (m:=1) (cap:=1) rfl (Ad5 x) (by simp) (by omega);obtain⟨ak,rf⟩:=KpB.put (L:=λi=>i=w2.heap.size+1) r2 b l s ar;have r3:=r2.grown l (QK b r2 (by decide));have o4:=Qu V3 bk 6 v3;have ab:=Za s o4 (QK s r3 (by decide));have aa:∀y,DlT V y->DlT (V3.setCell ⟨bk,6,none⟩ v3) y:=λy hy=>((hy.go bm).own b l).only r3 (by decide) o4;have ac:=z.below bm z.lt;have al:=(ac.grown l (QK b ac (by decide))).only o4 (by omega);have b3:=QJ (h5.trans (bm.mono aq)) b l ai (Nat.le_refl _);have a9:V.heap.size<=(V3.setCell ⟨bk,6,none⟩ v3).heap.size:=Lj bm.size ak.size;rw[<-Ab9]at ab
   have HF:Hid (KeepsFrom w2.heap.size V (V3.setCell ⟨bk,6,none⟩ v3)/\KpB bk (λi=>i=w2.heap.size+1) V (V3.setCell ⟨bk,6,none⟩ v3)/\∃v,Row (V3.setCell ⟨bk,6,none⟩ v3) bk 177 (ZP p 0 1 v)/\(V3.setCell ⟨bk,6,none⟩ v3).ownsRow B 91 3 v (q++[x]).length (XQ (q++[x]))/\(∀y∈q++[x],DlT (V3.setCell ⟨bk,6,none⟩ v3) y)/\Row (V3.setCell ⟨bk,6,none⟩ v3) T1 164 #[.pointer (some ⟨bk,0,none⟩)]/\Below B w0 (V3.setCell ⟨bk,6,none⟩ v3)/\w2.heap.size<=(V3.setCell ⟨bk,6,none⟩ v3).heap.size):=
    ⟨((KpX.of_below bm).keeps (X:=λ_=>False) (λ_ h=>h.elim)).trans ((KeepsFrom.of_own b l).trans (KeepsFrom.of_only r3 o4)),(KpB.of_below h1.lt bm).trans ak,v3,rf,by rw[La];exact ab,λy hy=>by
     rcases LG.1 hy with hy|hy
     ·exact aa y (h3 y hy)
     ·rw[L8.1 hy];exact aa x hT,al,Ql b3 o4 hB,by omega⟩
   obtain⟨A3,m3,d3,rfl⟩:=Ji s;have c6:=r3.cellv (i:=6) (v:=v) rfl;have f6:=r3.free 6;have af:=Lv ah;have a3:S V3:=TS.out _ (ac.grown l (QK b ac (by decide))) ((u.below (Mb.mono Mh) u.lt).grown l ao);have a4:S (V3.setCell ⟨bk,6,none⟩ (.slice A3 m3 d3)):=TS.out _ al (((u.below (Mb.mono Mh) u.lt).grown l ao).only o4 az);clear ah am b s ab l ar ak rf r1 r2 r3 o4 aa ac al b3 a9 bm bd Mr Mb Mh h1 h2 h3 z h5 h6 hT au hD u ao ai aq;(refine wpAnyH_all (rs:=[7]) (by kernel_rfl) (by simp) (λi hi=>?_);obtain rfl:i=7:=by simpa using hi);refine Qg rfl rfl (λK2 d=>?_);refine Qr _ (QF rfl af.out) ?_;refine d _ _ ?_;clear d K2 af;simp only[Act.put,Qa,Qb,Qc];refine⟨a3,?_⟩;(refine tkH 8 (.pointer (some ⟨bk,0,none⟩)) rfl (Qd rfl (λW hW=>by(go_simp))) ?_;simp only[Act.put,Qa,Qb,Qc]);(refine tkH 9 (.pointer (some ⟨bk,6,none⟩)) rfl (Qd rfl (λW hW=>by(go_simp))) ?_;simp only[Act.put,Qa,Qb,Qc]);(refine wpAnyH_all (rs:=[10]) (by kernel_rfl) (by simp) (λi hi=>?_);obtain rfl:i=10:=by simpa using hi);refine Qg rfl rfl (λK2 d=>?_);unfold Oper.wp;go_simp
   refine d _ _ ?_;clear d K2;simp only[Qa,Qb,Qc];refine⟨a4,?_⟩;refine wpAnyH_done (by kernel_rfl) ?_ _;refine JW ?_;gi_wp2_with fail
   exact HF.out
 case done=>
  rintro D ys W hD bp ⟨v,h1,h2,h3,z,h5, -⟩ hK;have HK:=Lv hK;have hr:∀r,some D=some r->False\/(True/\∃o:Obj,W.heap[r]? =some o/\o.isCells=false):=λr e=>by cases e;exact .inr ⟨trivial,_,hK,rfl⟩
  have hg:=grownBy_putObj' W D (.deferred none);have HF:Hid (∃v,Row (W.putObj D (.deferred none)) bk 177 (ZP p 0 1 v)/\FillD p bk B ag w0 v (W.putObj D (.deferred none))):=⟨v,h1.abide hg hr,ys,h2.kept hg (.inr (JC h2 hK rfl)),bp,λx hx=>(h3 x hx).abide hg hr,h5.grown hg (by have:=h1.lt;omega) (λk e=>by cases e;omega)⟩;clear hK hr hg h1 h2 h3 z h5 bp;gi_wp2;refine⟨by simp,.inl ⟨_,_,rfl,run_takeDeferred HK.out,?_⟩⟩;exact⟨_,results_none rfl _ _ _,rfl,HF.out⟩
end Go.Proofs.YtgnmkiafeplbpaaGreatDoor
namespace Go.Proofs.YtgnmkiafeplbpaaGreatDoor
open Go.RowKit Go.Deep
theorem AkM (p:PgV)(t:Tr)(hf:Fine p t)(hlc:p.body.length<=p.bcap)(hcm:p.bcap<=maxLen)(bk B:Nat)(hB:B<=bk)(w0 w:World)(hbw:Below B w0 w)(hr:Row w bk 177 (ZP p 0 0 (.slice none 0 0)))
 (hrd:Rd w p.ba (p.body.flatMap Nd.cells)) (hA:p.body.flatMap Nd.cells≠[]->∀ad,p.ba=some ad->ad.block≠bk):
 Calls Tryz.prog 127 #[.pointer (some ⟨bk,0,none⟩)] w λe w'=>∃v,e=.returned v/\FillD p bk B (KC p.body t) w0 v w':=by
 have o1:=Qu w bk 4 (.int .i32 1);have hF:=Ajk p t hf hlc hcm bk B hB w0 (w.setCell ⟨bk,4,none⟩ (.int .i32 1)) (Ql hbw o1 hB) (hr.set 4 _) (hrd.only o1 hA) hA;have u:=Lv (AfD bk p (.slice none 0 0) (FillD p bk B (KC p.body t) w0) w hr hF);have Hr:=Lv hr;clear hf hlc hcm hbw hr hrd hA hF o1;obtain⟨b,c⟩:∃b,b=KC p.body t:=⟨_,rfl⟩;rw[<-c]at u|-;clear c;have aa:∀(fn:Fn) (first g:Array Value) (w:World),(Instr.makeFunc fn first g).run Tryz.prog w=.ok (.func fn first g) w:=λ_ _ _ _=>rfl
 go_enter Tryz.func127,Tryz.ntmps127
 go_wp2_with fail
 refine u.out.mono ?_;rintro e w' ⟨rfl,v,a,r1,⟨xs,y,h2,h3,h4⟩,hw⟩;have h:Row a.drew bk 177 (ZP p 0 1 v):=r1;have d:Below a.heap.size a a.drew:=St.drew (S:=λW=>Below a.heap.size a W) (Below.refl _ _);have k:=QU y d;have m:∀x∈xs,DlT a.drew x:=λx z=>(h3 x z).go d
 have n:Below B w0 a.drew:=h4.trans (d.mono (by have:=r1.lt;omega));have o:=Qu a.drew bk 3 (.int .u32 1);have s:Row (a.drew.setCell ⟨bk,3,none⟩ (.int .u32 1)) bk 177 (ZP p 1 1 v):=h.set 3 _;have j:=Za k o (QK k h (by decide));have q:=Qu (a.drew.setCell ⟨bk,3,none⟩ (.int .u32 1)) bk 4 (.int .i32 0);have r3:Row ((a.drew.setCell ⟨bk,3,none⟩ (.int .u32 1)).setCell ⟨bk,4,none⟩ (.int .i32 0)) bk 177 (ZP p 1 0 v):=s.set 4 _;have l:=Za j q (QK j s (by decide));have HF:Hid (FillD p bk B b w0 v ((a.drew.setCell ⟨bk,3,none⟩ (.int .u32 1)).setCell ⟨bk,4,none⟩ (.int .i32 0))):=⟨xs,l,h2,λx z=>((m x z).only h (by decide) o).only s (by decide) q,Ql (Ql n o hB) q hB⟩;rw[<-hw]at r3 HF;obtain⟨A,g,rfl⟩:=JQ y;have c6:=r3.cellv (i:=6) (v:=.slice A xs.length g) rfl;clear y h2 h3 h4 hw r1 h d k m n o s j q r3 l u Hr;go_wp2_with fail
 go_ret
 exact⟨_,rfl,HF.out⟩
structure AllR (p:PgV)(w w':World)(e:Ending):Prop where
 ex:∃(A:Option Addr) (cap:Nat) (xs:List DlV),e=.returned (.tuple #[.slice A xs.length cap,.int .i64 (QP p)])/\Rd w' A (XQ xs)/\xs.length<=cap/\(A=none->xs=[])/\(∀x∈xs,DlT w' x)/\(∀t,Fine p t->xs.map DlV.d=KC p.body t)/\(QP p≠0->xs=[])/\xs.length<=20000/\Below w.heap.size w w'
structure AllT (p:PgV)(w w':World)(e:Ending):Prop where
 ex:∃(A:Option Addr) (cap:Nat) (xs:List DlV),e=.returned (.tuple #[.slice A xs.length cap,.int .i64 (QP p)])/\Rd w' A (XQ xs)/\xs.length<=cap/\(A=none->xs=[])/\(∀x∈xs,DlT w' x)/\(∀t,Fine p t->xs.map DlV.d=KC p.body t)/\(QP p≠0->xs=[])/\xs.length<=20000/\Below w.heap.size w w'/\∀ad,A=some ad->∃cs:Array Value,Row w' ad.block 91 cs
theorem AllT.r{p:PgV}{w w':World}{e:Ending}(h:AllT p w w' e):AllR p w w' e:=by
 obtain⟨A,a,n,b,c,d,g,i,j,k,l,m,_⟩:=h;exact⟨A,a,n,b,c,d,g,i,j,k,l,m⟩
theorem AjV{w:World}{base size n m c:Nat}{e:TypeId}{A:Option Addr}{xs:List Value}(h:w.ownsRow base e size (.slice A m c) n xs):∀ad,A=some ad->∃cs:Array Value,Row w ad.block e cs:=λad ha=>by
 rcases h.2 with⟨b,_⟩|⟨g,c,a,b,i,d,_⟩
 ·injection b with e3;rw[ha]at e3;cases e3
 ·injection b with e3;rw[ha]at e3;injection e3 with e3;rw[e3];exact⟨a,d⟩
theorem AlF{w:World}{base n:Nat}{e:TypeId}{v:Value}{xs:List Value}(h:w.ownsRow base e 3 v n xs):∃A cap,v=.slice A n cap/\Rd w A xs/\n<=cap/\(A=none->n=0):=by
 obtain⟨A,cap,rfl⟩:=JQ h;refine⟨A,cap,rfl,E6 h,?_⟩;rcases h.2 with⟨a,d⟩|⟨g,c,b,a,_,_,i,_⟩
 ·injection a with a e2 e3;exact⟨by omega,λ_=>d⟩
 ·injection a with a e2 e3;subst a e3;exact⟨i,λe=>by cases e⟩
theorem AbU (p:PgV)(hbl:p.body.length<=1000)(w:World)(hok:p.ok w):
 Calls Tryz.prog 55 #[.agg p.cells] w λe w'=>AllT p w w' e:=by
 have q:=Lv hbl;have y:=Lv hok;clear hbl hok;go_enter Tryz.func55,Tryz.ntmps55
 go_wp2_with (refine Qx _ _ rfl ?_)
 refine Stop.to ?_;refine Qf rfl 25 _ rfl p.cells rfl ?_;intro G Gw Gh d Gb;have b:=(Below.refl w.heap.size w).trans (Gb.mono Gh);have a:=Lv (y.out.go b);have g:=Lv (UC p q.out Gw a.out);clear Gb Gh;go_wp2_with (refine wpList_load_row rfl 25 _ rfl G rfl 25 p.cells (0,0) _ d Tryz.underlying25 rfl (by kernel_rfl) ?_)
 refine g.out.mono ?_;rintro e w1 ⟨rfl,l⟩;replace d:=d.below l d.lt;replace b:=b.trans (l.mono b.size);replace a:=Lv (a.out.go l);clear l g;obtain⟨k,c⟩:∃k,k=QP p:=⟨_,rfl⟩;by_cases m:k=0;rotate_left
 ·have o:Hid (AllT p w w1 (.returned (.tuple #[.slice none 0 0,.int .i64 k]))):=⟨none,0,[],by rw[c];rfl,Rd.nil _ _,Nat.le_refl _,λ_=>rfl,λx hx=>by simp at hx,λt n=>absurd (checkP_ok.2 ⟨t,n⟩) (by rw[<-c];exact m),λ_=>rfl,by simp,b,λad e=>by cases e⟩;have e0:(k != 0)=true:=by simpa using m
  rw[<-c];clear c m;go_wp2_with fail
  refine bodyPost_ret (results_tmp2 rfl _ _ _) rfl ?_;exact o.out
 subst m;obtain⟨t,n⟩:=checkP_ok.1 c.symm;rw[<-c];have s:=Lv c;have j:=Lv n;clear c n;go_wp2_with (first| (refine Qx _ _ rfl ?_)| (refine wpList_load_row rfl 25 _ rfl G rfl 25 #[.int .i64 p.params,.slice p.va p.V.length p.vcap,.slice p.ba p.body.length p.bcap] (0,0) _ d Tryz.underlying25 rfl (by kernel_rfl) ?_))
 refine Stop.to ?_;refine Qf rfl 177 _ rfl (ZP p 0 0 (.slice none 0 0)) rfl ?_;intro K Kw Kh Kr z;have b3:=b.trans ((z.mono Kh).mono b.size);have b4:=(Below.refl w1.heap.size w1).trans (z.mono Kh);have g:=Lv (AkM p t j.out a.out.blen a.out.bmax K w.heap.size (by have:=b.size;omega) w Kw b3 Kr (a.out.brd.go b4) (λaa ad e=>by have:=X3 a.out.brd aa e;omega));clear d Kr z b3 b4 b a;go_wp2_with fail
 refine g.out.mono ?_;rintro e w2 ⟨v,rfl,xs,h1,h2,h3,h4⟩;obtain⟨A,i,rfl,hr,hc,hn⟩:=AlF h1;have hl:xs.length<=20000:=by have:=Ags j.out;rw[<-h2,L7]at this;exact this
 have o:Hid (AllT p w w2 (.returned (.tuple #[.slice A xs.length i,.int .i64 0]))):=⟨A,i,xs,by rw[<-s.out],hr,hc,λe=>L3 (hn e),h3,λu hu=>by rw[h2,j.out.good.whole.uniq hu.good.whole],λh=>absurd s.out.symm h,hl,h4,AjV h1⟩;clear h1 h2 h3 h4 hr hc hn hl g s j;go_wp2_with fail
 refine bodyPost_ret (results_tmp2 rfl _ _ _) rfl ?_;exact o.out
theorem Adx (p:PgV)(hbl:p.body.length<=1000)(w:World)(hok:p.ok w):
 Calls Tryz.prog 55 #[.agg p.cells] w λe w'=>AllR p w w' e:=(AbU p hbl w hok).mono λ_ _ h=>h.r
end Go.Proofs.YtgnmkiafeplbpaaGreatDoor
