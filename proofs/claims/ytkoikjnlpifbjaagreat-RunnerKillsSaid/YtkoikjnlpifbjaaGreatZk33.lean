/- Lemmas for RunnerKillsP. -/
import Derived.Test.YtkoikjnlpifbjaaGreatZk1
import Derived.Test.YtkoikjnlpifbjaaGreatZk32
import Derived.Test.YtkoikjnlpifbjaaGreatZk20
import Derived.Test.YtkoikjnlpifbjaaGreatZk11
import Derived.Test.YtkoikjnlpifbjaaGreatZk5
set_option linter.unusedVariables false
set_option linter.unusedSimpArgs false
set_option maxRecDepth 100000
set_option maxHeartbeats 16000000
namespace Go.Proofs.YtkoikjnlpifbjaaGreat
open Go.RowKit Go.Deep
attribute [local go_sem] Oper.semAt_some
noncomputable def ZU (p:PgV)(ts:List (List Int))(fuel:Int):List Rn:=if Zo p ts fuel=0 then ts.map (rnZ p fuel)else []
structure BaseR (p:PgV)(ts:List (List Int))(fuel:Int)(w w':World)(e:Ending):Prop where
 ex:∃v,e=.returned (.tuple #[v,.int .i64 (Zo p ts fuel)])/\w'.ownsRow w.heap.size 52 2 v (ZU p ts fuel).length (XB (ZU p ts fuel))/\Below w.heap.size w w'
theorem AjU:(Tryz.prog.info? 52).map (λi=>(i.zero,i.size,i.bytes))=some (some (.agg #[.int .i64 0,.int .i64 0]),2,16):=by kernel_rfl
theorem Ajf (w:World):(zeroValue 86).run Tryz.prog w=.ok (.slice none 0 0) w:=by kernel_rfl
theorem Ak9 (r:Rn):∀u∈r.cells.toList,u.oneCell'=true:=by
 intro u c;simp only[Rn.cells,Jv,Ls,Lw,or_false]at c;rcases c with rfl|rfl<;>rfl
theorem Akt{ts:List (List Int)}{f:List Int->Rn}{pre:List RnX}{x:RnX}{l:List Int}(h:pre.map RnX.rn=(ts.take pre.length).map f)(hl:ts[pre.length]? =some l)(hx:x.rn=f l):(pre++[x]).map RnX.rn=(ts.take (pre++[x]).length).map f:=by
 rw[LN,h,Le,Nf,L9,hl];simp[hx]
theorem AjZ{X:Nat->Prop}{A B:World}{lim n size:Nat}{e:TypeId}{v:Value}{xs:List Value}(h:A.ownsRow lim e size v n xs)(hg:A.grownBy B v.ownBlock)(hX:∀k,lim<=k->X k):KpX X A B:=
 ⟨λk o hx ho=>(hg.block k (Lr.1 ho).1 (λe=>hx (hX _ (by
  rcases h.2 with⟨rfl,_⟩|⟨g,_,_,rfl,h1,_⟩
  ·simp[Value.ownBlock]at e
  ·simp[Value.ownBlock]at e;omega)))).trans ho,hg.size⟩
theorem YS{p:PgV}{ts:List IntsV}{fuel:Int}(h:Zo p (ts.map IntsV.l) fuel=0):∀x∈ts,x.l.length<=1000:=by
 intro x i;unfold Zo at h;split at h
 ·rename_i c;exact absurd h c
 rename_i c
 have e:JB p.params p.V=0:=by
  unfold QX at c;split at c
  ·rename_i d;exact absurd d c
  split at c
  ·exact absurd (by decide) c
  ·rename_i d;simpa using d
 have d:=(X0 h).2.2.1 x.l (Nb i);unfold JB at e;split at e
 ·rename_i g;have:=g.2.1;have:=g.2.2.1;omega
 ·cases e
theorem AhG (p:PgV)(A:Option Addr)(cap:Nat)(ts:List IntsV)(fuel:Int)(w:World)(hok:p.ok w)(hbl:p.body.length<=1000)(hr:Rd w A (Jo ts))(hot:∀x∈ts,x.ok w)(hl:ts.length<=1000):
 Calls Tryz.prog 50 #[.agg p.cells,.slice A ts.length cap,.int .i64 fuel] w λe w'=>BaseR p (ts.map IntsV.l) fuel w w' e:=by
 have an:=Lh hok;have al:=Lh hbl;have Hr:=Lh hr;have az:=Lh hot;have Hl:=Lh hl;obtain⟨n,aj⟩:∃n,n=ts.length:=⟨_,rfl⟩;have am:=Lh aj;rw[<-aj];clear hok hbl hr hot hl aj;refine(callsIn_wide (n:=0)).1 ?_;refine callsIn_of_wp_marks Tryz.func50 rfl trivial ?_;simp only[Tryz.ntmps50,Lk,Lc,Lo,Nat.reduceAdd,Nat.reduceSub,Li,Lj,Lp,L5,Lm,Ll];refine wpIn_wide.2 ?_;go_wp2_with (refine Qq _ _ rfl ?_)
 refine Stop.to ?_;refine Qe rfl 25 _ rfl p.cells rfl ?_;intro G Gw Gh Gr Gb;have j:=(Below.refl w.heap.size w).trans (Gb.mono Gh);have a7:w.heap.size<=G:=Gh;have Hc:=Lh (Ui p al.out Gw (an.out.go j));clear Gb Gh;go_wp2_with (refine wpList_load_row rfl 25 _ rfl G rfl 25 p.cells (0,0) _ Gr Tryz.underlying25 rfl (by kernel_rfl) ?_)
 refine Hc.out.mono ?_;rintro e w1 ⟨rfl,g⟩;replace Gr:=Gr.below g Gr.lt;replace j:=j.trans (g.mono j.size);clear g Hc;obtain⟨z,hz⟩:∃z,z=QX p:=⟨_,rfl⟩;rw[<-hz];by_cases h0:z=0;rotate_left
 ·have a6:(z != 0)=true:=by simpa using h0
  have hb:Zo p (ts.map IntsV.l) fuel=z:=by unfold Zo;rw[<-hz,if_pos h0]
  have HF:Hid (BaseR p (ts.map IntsV.l) fuel w w1 (.returned (.tuple #[.slice none 0 0,.int .i64 z]))):=⟨_,by rw[hb],by unfold ZU;rw[hb,if_neg h0];exact World.ownsRow_nil _ _ _ _,j⟩;clear hz h0 hb;go_wp2_with fail
  exact⟨_,results_tmp2 Tryz.results50 _ _ _,HF.out⟩
 have Hz:Hid (QX p=0):=hz.symm.trans h0;subst h0;clear hz;have Hc:=Lh (AbH p.params fuel A cap ts w1 (Hr.out.go j) (by have:=Hl.out;omega));rw[<-am.out]at Hc;have c0:=Gr.cellv (i:=0) (v:=.int .i64 p.params) rfl;go_wp2_with fail
 refine Hc.out.mono ?_;rintro e w2 ⟨rfl,g⟩;replace Gr:=Gr.below g Gr.lt;replace j:=j.trans (g.mono j.size);clear g Hc c0;obtain⟨z,hz⟩:∃z,z=Z3 p.params (ts.map IntsV.l) fuel:=⟨_,rfl⟩;rw[<-hz];have hb:Zo p (ts.map IntsV.l) fuel=z:=by unfold Zo;rw[if_neg (by rw[Hz.out];simp), <-hz]
 have Hb:=Lh hb;clear hz hb;by_cases h0:z=0;rotate_left
 ·have a6:(z != 0)=true:=by simpa using h0
  have HF:Hid (BaseR p (ts.map IntsV.l) fuel w w2 (.returned (.tuple #[.slice none 0 0,.int .i64 z]))):=⟨_,by rw[Hb.out],by unfold ZU;rw[Hb.out,if_neg h0];exact World.ownsRow_nil _ _ _ _,j⟩;clear h0 Hb;go_wp2_with fail
  exact⟨_,results_tmp2 Tryz.results50 _ _ _,HF.out⟩
 subst h0;go_wp2_with (first|fail| (refine QH _ rfl ?_))
 refine Stop.to ?_;refine Qj rfl 86 rfl _ _ (Ajf _) rfl ?_;intro Q Qw Qh Qr Qb;have Qc:=Qb.mono Qh;have a0:w.heap.size<=Q:=Ld j.size Qh;replace Gr:=Gr.below Qc Gr.lt;replace j:=j.trans (Qc.mono j.size);clear Qb Qh Qc;go_wp2_with (refine wpList_load_row rfl 25 _ rfl G rfl 25 p.cells (0,0) _ Gr Tryz.underlying25 rfl (by kernel_rfl) ?_)
 refine(Afu p A n cap fuel Qw).mono ?_;rintro e w3 ⟨bt,bp,bf,rfl,r1,r2,r3,g1,g2,g3,g⟩;have sQ:=Qr.lt;replace Qr:=Qr.below g Qr.lt;have b3:=j.trans (g.mono j.size);obtain⟨lim,af⟩:∃lim,lim=w3.heap.size:=⟨_,rfl⟩;rw[am.out]at r1
 have hC:RunsC p A cap ts fuel (λk=>k=Q\/lim<=k) bt bp bf w3:=RunsC.of (lim:=Q) (w0:=w) (λk hk=>by have:=Qr.lt;rcases hk with h|h<;>omega) (by omega) an.out Hr.out az.out b3 r1 r2 r3
  (λh=>by have:=r1.lt;omega) (λh=>by have:=r2.lt;omega) (λh=>by have:=r3.lt;omega)
 have ax:=Lh (Aft p al.out A cap ts Hl.out (YS Hb.out) fuel (λk=>k=Q\/lim<=k) bt bp bf w3 hC);have a8:Q<lim:=by have:=Qr.lt;omega
 have a5:w.heap.size<=lim:=by omega
 have ac:=Lh af;have aw:Hid (∃v,Row w3 Q 86 #[v]/\w3.ownsRow lim 52 2 v (([]:List RnX).map RnX.rn).length (XB (([]:List RnX).map RnX.rn))/\([]:List RnX).map RnX.rn=((ts.map IntsV.l).take ([]:List RnX).length).map (rnZ p fuel)/\Below w.heap.size w w3/\lim<=w3.heap.size):=⟨_,Qr,World.ownsRow_nil _ _ _ _,rfl,b3,by omega⟩;clear hC r1 r2 r3 g1 g2 g3 j g b3 sQ af Qr Gr;go_wp2_with fail
 refine(wpIn_wide (n:=0)).1 ?_
 refine Uo (gf:=83) (lb:=#[.pointer (some ⟨bt,0,none⟩),.pointer (some ⟨bp,0,none⟩),.pointer (some ⟨bf,0,none⟩)]) rfl (enters_of Tryz.func83 (by kernel_rfl) rfl) ax.out (λr h=>h.elim)
  (λh k=>h.trans k) (λV o o' ho hc=>⟨λi p hx hp=>by rw[World.putObj_heap_other (λe=>hx (.inr e))];exact hp,by simp⟩) (World.grownBy.refl _ _) (λ_=>rfl)
  (λd V=>∃v,Row V Q 86 #[v]/\V.ownsRow lim 52 2 v (d.map RnX.rn).length (XB (d.map RnX.rn))/\d.map RnX.rn=((ts.map IntsV.l).take d.length).map (rnZ p fuel)/\Below w.heap.size w V/\lim<=V.heap.size)
  (λ_ _ _=>False) (.inl trivial) ?hI ?hIx aw.out
  (λd x a' V=>∃D,a'={ tmps:=#[.agg p.cells,.slice A n cap,.int .i64 fuel,.pointer (some ⟨G,0,none⟩),undef,undef,.slice none 0 0,.int .i64 0,.int .i64 0,.int .i64 0,.pointer (some ⟨Q,0,none⟩),undef,.pointer (some ⟨D,0,none⟩),.agg p.cells,.int .i64 0,.int .i64 0,.bool false,undef,.pointer (some ⟨G,0,none⟩),.int .i64 p.params,.slice A n cap,.int .i64 fuel,.int .i64 0,.int .i64 0,.bool false,undef,.agg p.cells,.slice A n cap,.int .i64 fuel,.func (.func 83) #[] #[.pointer (some ⟨bt,0,none⟩),.pointer (some ⟨bp,0,none⟩),.pointer (some ⟨bf,0,none⟩)],.int .i64 (x.i:Int),.agg x.r.cells,undef,undef,undef,undef,undef,undef],defers:=[] }/\Row V D 114 x.r.cells/\(∃l,(ts.map IntsV.l)[d.length]? =some l/\x.rn=rnZ p fuel l)) ?hAx ?assign ?body ?done ?stop
 case hI=>
  rintro d V V' row ⟨v,t,u,h3,y,h5⟩ hg hr
  have ag:∀r,row=some r->w3.heap.size<=r/\v.ownBlock≠some r:=λr e=>by
   rcases hr r e with h|⟨h,o,ho,hc⟩
   ·exact h.elim
   ·exact⟨h,Jd u ho hc⟩
  refine⟨v,t.abide hg hr,u.kept hg ?_,h3,y.grown hg y.size (λk e=>by have:=(ag k e).1;have:=ac.out;omega),Ld h5 hg.size⟩;cases row with
  |none=>cases v.ownBlock<;>simp
  |some r=>exact .inr (ag r rfl).2
 case hIx=>exact λ_ _ _ _ _ h _ _=>h
 case hAx=>
  rintro d x a' _ V V' row ⟨D,t,u,h3⟩ hg hr;exact⟨D,t,u.abide hg hr,h3⟩
 case stop=>exact λD c d W _ _ h _=>h.elim
 case assign=>
  rintro l3 d x V K hI hP hK;have HK:=Lh hK;have HI:=Lh hI;have HP:=Lh hP.rn;clear hK hI hP;unfold RnX.enc;rw[show x.r.val=.agg x.r.cells from rfl];gi_wp2_with (refine X8 _ _ _ rfl ?_);refine Stop.to ?_;obtain⟨D,hD⟩:∃D,D=V.heap.size:=⟨_,rfl⟩;obtain⟨V1,s⟩:∃V1,V1=V.alloc (.cells #[.int .i64 0,.int .i64 0,.int .i64 0,.slice none 0 0] 114):=⟨_,rfl⟩;have rD:Row V1 D 114 #[.int .i64 0,.int .i64 0,.int .i64 0,.slice none 0 0]:=by rw[s,hD];exact Row.new _ _ _
  have j:Below V.heap.size V V1:=by rw[s];exact(Below.refl _ _).alloc (Nat.le_refl _) _
  rw[<-s, <-hD];have ap:V.heap.size<=D:=LD hD.symm;clear s hD;refine Zd rfl 114 _ _ rfl D x.r.cells rfl rfl 114 _ rD (by kernel_rfl) rfl (by simp[RunV.cells,Value.oneCell']) ?_;have ak:=rD.setRow x.r.cells;have o2:=ZN V1 D x.r.cells;have g:Below V.heap.size V (V1.setRow D x.r.cells):=Qp j o2 ap;generalize V1.setRow D x.r.cells=V2 at ak o2 g|-;obtain⟨v,t,u,h3,y,h5⟩:=HI.out;have a4:=g.size;have HF:=Lh (And.intro ((KpX.of_below g).keeps (b:=w3.heap.size) (X:=λ_=>False) (λ_ h=>h.elim)) (And.intro (KpX.of_below (X:=λi=>(i=Q\/lim<=i)\/i=w3.heap.size+1) g) (And.intro (show ∃v,Row V2 Q 86 #[v]/\V2.ownsRow lim 52 2 v (d.map RnX.rn).length (XB (d.map RnX.rn))/\d.map RnX.rn=((ts.map IntsV.l).take d.length).map (rnZ p fuel)/\Below w.heap.size w V2/\lim<=V2.heap.size from⟨v,t.below g t.lt,QB u g,h3,y.trans (g.mono (by have:=y.size;omega)),by omega⟩) ak)));clear rD ak j o2 g ap t u h3 y h5 a4 HI;gi_wp2_with fail
  exact HK.out _ _ HF.out.1 HF.out.2.1 HF.out.2.2.1 ⟨D,rfl,HF.out.2.2.2,HP.out⟩
 case body=>
  rintro l3 d x a' V a2 _ ⟨v,t,u,h3,y,h5⟩ ⟨D,rfl,a3,l,hl,hx⟩ aq;have a9:d.length<=1000:=by have:=Hl.out;omega
  have ay:=Lh hl;have Hx:=Lh hx;have H3:=Lh h3;clear hl hx h3 aq a2;have c1:=t.cellv (i:=0) (v:=v) rfl;obtain⟨M,hM⟩:∃M,M=V.heap.size:=⟨_,rfl⟩;obtain⟨V1,s⟩:∃V1,V1=V.alloc (.cells #[.int .i64 x.r.kind,.int .i64 x.r.value] 52):=⟨_,rfl⟩;have Mr:Row V1 M 52 #[.int .i64 x.r.kind,.int .i64 x.r.value]:=by rw[s,hM];exact Row.new _ _ _
  have Mb:Below V.heap.size V V1:=by rw[s];exact(Below.refl _ _).alloc (Nat.le_refl _) _
  have q:=QB u Mb;have r2:=t.below Mb t.lt;have ao:lim<=V1.heap.size:=Ld h5 Mb.size;have g:=y.trans (Mb.mono y.size);obtain⟨v3,V3,ah,aa,ab,a1⟩:=ZA (P:=Tryz.prog) 86 52 (.agg #[.int .i64 0,.int .i64 0]) 2 16 Tryz.underlying86 AjU rfl (by decide) (by decide) q ao (Jz (cs:=x.rn.cells.toList) (by simpa[RnX.rn,Rn.cells,Jv]using Mr)) (m:=1) (cap:=1) rfl (Ak9 _) (by simp) (by simp;omega);have r3:=r2.grown ab (Qz q r2 (by decide));have o4:=Zl V3 Q 0 v3;have ai:=Qx aa o4 (Qz aa r3 (by decide));have r4:=r3.set 0 v3;have b3:=QL g q ab (by omega) a5;have b4:=Qp b3 o4 a0;have kf:=((KpX.of_below Mb).keeps (b:=w3.heap.size) (X:=λ_=>False) (λ_ h=>h.elim)).trans ((KeepsFrom.of_own q ab).trans (KeepsFrom.of_only r3 o4));have kp:KpX (λi=>(i=Q\/lim<=i)\/i=w3.heap.size+1) V (V3.setCell ⟨Q,0,none⟩ v3):=(KpX.of_below Mb).trans ((AjZ q ab (λk hk=>.inl (.inr hk))).trans (KpX.only o4 (.inl (.inl rfl))));have ar:lim<=(V3.setCell ⟨Q,0,none⟩ v3).heap.size:=by have e1:=ab.size;have e2:=o4.size;omega
  have au:=Akt H3.out ay.out Hx.out
  have HF:Hid (KeepsFrom w3.heap.size V (V3.setCell ⟨Q,0,none⟩ v3)/\KpX (λi=>(i=Q\/lim<=i)\/i=w3.heap.size+1) V (V3.setCell ⟨Q,0,none⟩ v3)/\∃v,Row (V3.setCell ⟨Q,0,none⟩ v3) Q 86 #[v]/\(V3.setCell ⟨Q,0,none⟩ v3).ownsRow lim 52 2 v ((d++[x]).map RnX.rn).length (XB ((d++[x]).map RnX.rn))/\(d++[x]).map RnX.rn=((ts.map IntsV.l).take (d++[x]).length).map (rnZ p fuel)/\Below w.heap.size w (V3.setCell ⟨Q,0,none⟩ v3)/\lim<=(V3.setCell ⟨Q,0,none⟩ v3).heap.size):=
   ⟨kf,kp,v3,r4,by rw[LN,List.map_singleton,Afh,Le];exact ai,au,b4,ar⟩
  obtain⟨A3,m3,d3,rfl⟩:=ZC aa;have c3:=r3.cellv (i:=0) (v:=v) rfl;have f3:=r3.free 0;have ae:=Lh ah;clear t u y h5 Mr Mb q r2 ao g ah aa ab a1 r3 o4 ai r4 b3 b4 kf kp ar au;gi_wp2_with (first| (refine Je rfl 52 _ rfl ⟨D,0,none⟩ rfl [.int .i64 x.r.kind,.int .i64 x.r.value] _ (YZ a3) Tryz.underlying52 rfl (by kernel_rfl) ?_)| (refine AcM _ _ _ _ rfl ?_))
  rw[<-s, <-hM];clear s hM;refine Stop.to ?_;refine U5 rfl (λc h=>by cases h) rfl _ (QE rfl ae.out) ?_;clear ae;gi_wp2_with fail
  exact HF.out
 case done=>
  rintro D ys V hD av ⟨v,t,u,h3,y,h5⟩ hK;have hr:∀r,some D=some r->False\/(True/\∃o:Obj,V.heap[r]? =some o/\o.isCells=false):=λr e=>by cases e;exact .inr ⟨trivial,_,hK,rfl⟩
  have hg:=grownBy_putObj' V D (.deferred none);have ad:=u.kept hg (.inr (Jd u hK rfl));obtain⟨A9,m9,c9,rfl⟩:=ZC ad;have hc:=t.cellv (i:=0) (v:=.slice A9 m9 c9) rfl
  have hbl:ZU p (ts.map IntsV.l) fuel=ys.map RnX.rn:=by
   unfold ZU;rw[Hb.out,if_pos rfl,h3,av,L7 (by rw[Lu];exact Nat.le_refl _)]
  have HF:Hid (BaseR p (ts.map IntsV.l) fuel w (V.putObj D (.deferred none)) (.returned (.tuple #[.slice A9 m9 c9,.int .i64 0]))):=⟨_,by rw[Hb.out],by rw[hbl];exact QR ad (by have:=ac.out;omega),y.grown hg y.size (λk e=>by cases e;have:=ac.out;omega)⟩;have HK:=Lh hK;clear hK hr hg t u h3 y h5 av ad hbl;gi_wp2;go_wp2_with fail
  refine⟨by simp,.inl ⟨_,_,rfl,run_takeDeferred HK.out,?_⟩⟩;exact⟨_,results_tmp2 Tryz.results50 _ _ _,HF.out⟩
end Go.Proofs.YtkoikjnlpifbjaaGreat
namespace Go.Proofs.YtkoikjnlpifbjaaGreat
open Go.RowKit Go.Deep
attribute [local go_sem] Oper.semAt_some
def mt0:MtV:=⟨none,0,⟨⟨[],0,0⟩,0,0,0,0,[]⟩⟩
theorem AaH (w:World):(zeroValue 54).run Tryz.prog w=.ok (.agg mt0.cells.toArray) w:=by kernel_rfl
theorem Agg (p:PgV)(fuel:Int)(a:List Int):(rnZ p fuel a).dig.length=32:=Ac8 _
theorem Abr{f g:List Int->Rn}(d:Dl)(ts:List (List Int))(h:∀a,(g a).dig.length=32):(Za f g d ts).digest.length<=1000000:=by
 by_cases c:(Za f g d ts).verdict=0
 ·rw[Yh]at c;rw[VZ c];simp
 ·obtain⟨i,a,_,e,_⟩:=ER c;rw[e];show(g a).dig.length<=_;rw[h];omega
end Go.Proofs.YtkoikjnlpifbjaaGreat
namespace Go.Proofs.YtkoikjnlpifbjaaGreat
open Go.RowKit Go.Deep
structure RnV where
 g:Nat
 q:PgV
 tA:Option Addr
 tcap:Nat
 ts:List IntsV
 fuel:Int
 aA:Option Addr
 acap:Nat
 xs:List DlV
 n:Nat
 on:Bool
 bv:Value
 mv:Value
 ms:List MtV
def RnV.cells (R:RnV):Array Value:=#[.int .i64 R.q.params,.slice R.q.va R.q.V.length R.q.vcap,.slice R.q.ba R.q.body.length R.q.bcap,.slice R.tA R.ts.length R.tcap,.int .i64 R.fuel,.slice R.aA R.xs.length R.acap,.int .i64 (R.n:Int),.int .u32 (if R.on then 1 else 0),.int .i32 0,.int .u32 0,R.bv,R.mv]
structure RnF (R:RnV)(W:World):Prop where
 pok:R.q.ok W
 va:RowB W 3 R.q.va
 ba:RowB W 65 R.q.ba
 trd:Rd W R.tA (Jo R.ts)
 tA:RowB W 22 R.tA
 tok:∀x∈R.ts,x.ok W
 tb:∀x∈R.ts,RowB W 3 x.addr
 ard:Rd W R.aA (Yb R.xs)
 aA:RowB W 50 R.aA
 aok:∀x∈R.xs,DlT W x
 bas:if R.on then ∃A c,R.bv=.slice A (ZU R.q (R.ts.map IntsV.l) R.fuel).length c/\Rd W A (XB (ZU R.q (R.ts.map IntsV.l) R.fuel))/\RowB W 52 A else R.bv=.slice none 0 0
 mok:∀y∈R.ms,MtT W y
structure RnIn (lo:Nat)(R:RnV)(W:World):Prop where
 row:Row W R.g 88 R.cells
 glo:lo<=R.g
 rd:RnF R W
 own:W.ownsRow lo 54 8 R.mv R.ms.length (XJ R.ms)
theorem Q3{W W':World}{t:TypeId}{A:Option Addr}{xs:List Value}(h:Rd W A xs)(b:RowB W t A)(k:∀(i:Nat) cs,Row W i t cs->Row W' i t cs):Rd W' A xs:=λj u hj=>by
 obtain⟨a,e,d⟩:=h j u hj;obtain⟨cs,c⟩:=b a e;exact⟨a,e,(World.cell?_of_block (by rw[JG];exact(k _ _ c).trans (Eq.symm c))).trans d⟩
theorem QP{W W':World}{t:TypeId}{A:Option Addr}(b:RowB W t A)(k:∀(i:Nat) cs,Row W i t cs->Row W' i t cs):RowB W' t A:=λad e=>by
 obtain⟨cs,c⟩:=b ad e;exact⟨cs,k _ _ c⟩
def TKeep (W W':World):Prop:=∀(i:Nat) (t:TypeId) cs,Row W i t cs->t≠88->t≠54->Row W' i t cs
theorem TKeep.refl (W:World):TKeep W W:=λ_ _ _ h _ _=>h
theorem TKeep.trans{A B C:World}(h:TKeep A B)(k:TKeep B C):TKeep A C:=λi t cs r a b=>k i t cs (h i t cs r a b) a b
theorem TKeep.below{A B:World}(b:Below A.heap.size A B):TKeep A B:=λ_ _ _ r _ _=>r.below b r.lt
theorem TKeep.only{A B:World}{g:Nat}{cs:Array Value}(o:Only g A B)(r:Row A g 88 cs):TKeep A B:=λi t ds h a _=>h.only o (λe=>a (by
 subst e
 have h9:A.heap[i]? =some (.cells ds t (0,0)):=h
 rw[show A.heap[i]? =some (.cells cs 88 (0,0))from r]at h9
 injection h9 with h9;injection h9 with _ h9;exact h9.symm))
theorem TKeep.own{A B:World}{lo size n:Nat}{v:Value}{xs:List Value}(h:A.ownsRow lo 54 size v n xs)(g:A.grownBy B v.ownBlock):TKeep A B:=λi t cs r _ b=>r.grown g (Qz h r (λe=>b e.symm))
theorem RnF.keep{R:RnV}{W W':World}(h:RnF R W)(k:TKeep W W'):RnF R W':=by
 have j:∀(i:Nat) d,Row W i 3 d->Row W' i 3 d:=λi d r=>k i _ d r (by decide) (by decide);have p:∀(i:Nat) d,Row W i 65 d->Row W' i 65 d:=λi d r=>k i _ d r (by decide) (by decide);have o:∀(i:Nat) d,Row W i 22 d->Row W' i 22 d:=λi d r=>k i _ d r (by decide) (by decide);have n:∀(i:Nat) d,Row W i 50 d->Row W' i 50 d:=λi d r=>k i _ d r (by decide) (by decide);have q:∀(i:Nat) d,Row W i 52 d->Row W' i 52 d:=λi d r=>k i _ d r (by decide) (by decide)
 refine⟨⟨h.pok.par,h.pok.vlen,h.pok.vmax,h.pok.vnil,Q3 h.pok.vrd h.va j,h.pok.vin,h.pok.blen,h.pok.bmax,h.pok.bnil,Q3 h.pok.brd h.ba p,h.pok.bin⟩,QP h.va j,QP h.ba p,Q3 h.trd h.tA o,QP h.tA o,
  λx g=>⟨(h.tok x g).len,(h.tok x g).cap,(h.tok x g).nil,Q3 (h.tok x g).reads (h.tb x g) j,(h.tok x g).all⟩,λx g=>QP (h.tb x g) j,Q3 h.ard h.aA n,QP h.aA n,
  λx g=>⟨⟨Q3 (h.aok x g).ok.1 (h.aok x g).ib j,(h.aok x g).ok.2⟩,QP (h.aok x g).ib j,(h.aok x g).nil⟩,?_,λy u=>(h.mok y u).same λa d _ r=>j _ _ r⟩
 have l:=h.bas;split
 ·rename_i e;rw[if_pos e]at l;obtain⟨A,c,s,t,m⟩:=l;exact⟨A,c,s,Q3 t m q,QP m q⟩
 ·rename_i e;rw[if_neg e]at l;exact l
theorem RnIn.go{lo:Nat}{R:RnV}{W W':World}(h:RnIn lo R W)(b:Below W.heap.size W W'):RnIn lo R W':=⟨h.row.below b h.row.lt,h.glo,h.rd.keep (.below b),QB h.own b⟩
instance St.rnin{lo:Nat}{R:RnV}:St (λW=>RnIn lo R W):=⟨λh b=>h.go b⟩
theorem EF (g:Nat)(cs:Array Value)(n:Int)(W:World)(hr:Row W g 88 cs)(h6:cs[6]? =some (.int .i64 n)):
 Calls Tryz.prog 12 #[.pointer (some ⟨g,0,none⟩)] W λe w'=>e=.returned (.int .i64 n)/\w'=W:=by
 have c:=Lh (Agn ⟨g,6,none⟩ n W (hr.cellv h6));clear hr h6;go_enter Tryz.func12,Tryz.ntmps12
 go_wp2_with fail
 refine c.out.mono ?_;rintro e w' ⟨rfl,rfl⟩;go_wp2
 go_ret
 exact⟨rfl,rfl⟩
theorem Adb (W:World):Calls Tryz.prog 12 #[.pointer none] W λe w'=>e=.returned (.int .i64 0)/\w'=W:=by
 go_enter Tryz.func12,Tryz.ntmps12
 go_wp2
 go_ret
 exact⟨rfl,rfl⟩
theorem Adz (W:World):Calls Tryz.prog 13 #[.pointer none] W λe w'=>e=.returned (.int .i64 0)/\w'=W:=by
 go_enter Tryz.func13,Tryz.ntmps13
 go_wp2
 go_ret
 exact⟨rfl,rfl⟩
theorem AdO (W:World):Calls Tryz.prog 9 #[.pointer none] W λe w'=>e=.returned (.bool false)/\w'=W:=by
 go_enter Tryz.func9,Tryz.ntmps9
 go_wp2
 go_ret
 exact⟨rfl,rfl⟩
theorem EW{lo:Nat}(R:RnV)(W:World)(h:RnIn lo R W)(hn:R.n<=R.xs.length)(hx:R.xs.length<=1000000):
 Calls Tryz.prog 13 #[.pointer (some ⟨R.g,0,none⟩)] W λe w'=>e=.returned (.int .i64 ((R.xs.length:Int)-(R.n:Int)))/\Below W.heap.size W w':=by
 obtain⟨S,d⟩:∃S:World->Prop,S=(λw=>Row w R.g 88 R.cells/\Below W.heap.size W w):=⟨_,rfl⟩;have s:St S:=by rw[d];infer_instance
 have l:Hid (∀w,S w->Row w R.g 88 R.cells):=by show ∀w,_;rw[d];exact λw h=>h.1
 have q:Hid (∀w,S w->Below W.heap.size W w):=by show ∀w,_;rw[d];exact λw h=>h.2
 have o:S W:=by rw[d];exact⟨h.row,Below.refl _ _⟩
 have m:IntKind.i64.wrap ((R.xs.length:Int)-(R.n:Int))=(R.xs.length:Int)-(R.n:Int):=IntWalk.i64_in _ (by omega);have p:=Lh m;clear d h hn hx m;go_enter Tryz.func13,Tryz.ntmps13
 go_wp2_with fail
 refine JC S (by kernel_rfl) (by kernel_rfl) (St.drew o) ?_;clear o
 iterate 4 (refine Qg rfl ?_ (λW j=>?_) ?_;rotate_left;(focus(go_simp;exact rfl));simp only[Act.put,Qa,Qb,Qc])
 (refine Qg rfl ?_ (λW j=>?_) ?_;rotate_left;(focus(have c:=(l.out _ j).cellv (i:=5) (v:=.slice R.aA R.xs.length R.acap) rfl;go_simp;exact rfl));simp only[Act.put,Qa,Qb,Qc])
 iterate 2 (refine Qg rfl ?_ (λW j=>?_) ?_;rotate_left;(focus(go_simp;exact rfl));simp only[Act.put,Qa,Qb,Qc])
 (refine Q8 rfl 12 _ (λW=>by(go_simp;try rfl)) (.int .i64 (R.n:Int)) (λW j=>(EF R.g R.cells (R.n:Int) W (l.out _ j) rfl).mono λe w' h=>⟨h.1,h.2▸Below.refl _ _⟩) ?_;simp only[Act.put,Qa,Qb,Qc])
 (refine Qg rfl ?_ (λW j=>?_) ?_;rotate_left;(focus(have e:=p.out;go_simp;exact rfl));simp only[Act.put,Qa,Qb,Qc]);(refine Qg rfl ?_ (λW j=>?_) ?_;rotate_left;(focus(go_simp;exact rfl));simp only[Act.put,Qa,Qb,Qc]);refine Q4 λt k=>?_
 go_wp2_with fail
 go_ret
 exact⟨rfl,q.out _ k⟩
structure CopyP (p:PgV)(w w':World)(e:Ending):Prop where
 ex:∃q:PgV,e=.returned q.val/\q.params=p.params/\q.V=p.V/\q.body=p.body/\q.ok w'/\RowB w' 3 q.va/\RowB w' 65 q.ba/\Below w.heap.size w w'
theorem Ajj{w:World}:(zeroValue 25).run Tryz.prog w=.ok (.agg #[.int .i64 0,.slice none 0 0,.slice none 0 0]) w:=by kernel_rfl
theorem Yy (p:PgV)(w:World)(hok:p.ok w)(hbl:p.body.length<=1000)(hvl:p.V.length<=1000):
 Calls Tryz.prog 26 #[.agg p.cells] w λe w'=>CopyP p w w' e:=by
 have ae:=Lh hbl;have af:=Lh hvl;have m:=Lh hok;clear hbl hvl hok;go_enter Tryz.func26,Tryz.ntmps26
 go_wp2_with (refine Qq _ _ rfl ?_)
 refine Stop.to ?_;refine Qe rfl 25 _ rfl p.cells rfl ?_;intro G Gw Gh Gr Gb;have b1:=(Below.refl w.heap.size w).trans (Gb.mono Gh);go_wp2_with (first|fail| (refine QH _ rfl ?_))
 refine Stop.to ?_;refine Qj rfl 25 rfl _ _ Ajj rfl ?_;intro Q Qw Qh Qr Qb;have b2:=b1.trans ((Qb.mono Qh).mono b1.size);have rG:=Gr.below (Qb.mono Qh) Gr.lt;have ah:w.heap.size<=Q:=Ld b1.size Qh;have ag:G≠Q:=by have:=Gr.lt;omega
 clear Gb Gh Qb Qh Gr b1;go_wp2_with fail
 obtain⟨S,j⟩:∃S:World->Prop,S=(λW=>Row W G 25 p.cells/\p.ok W/\Below w.heap.size w W):=⟨_,rfl⟩;have ad:St S:=by rw[j];infer_instance
 have z:Hid (∀W,S W->Row W G 25 p.cells):=by show ∀W,_;rw[j];exact λW h=>h.1
 have S1:Hid (∀W,S W->p.ok W):=by show ∀W,_;rw[j];exact λW h=>h.2.1
 have S2:Hid (∀W,S W->Below w.heap.size w W):=by show ∀W,_;rw[j];exact λW h=>h.2.2
 have hS:S Qw.drew:=by rw[j];exact St.drew (S:=λW=>Row W G 25 p.cells/\p.ok W/\Below w.heap.size w W) ⟨rG,m.out.go b2,b2⟩
 have SI:Hid (∀W,Row W G 25 p.cells->Below w.heap.size w W->S W):=by show ∀W,_;rw[j];exact λW h b=>⟨h,m.out.go b,b⟩
 have rQ:Row Qw.drew Q 25 #[.int .i64 0,.slice none 0 0,.slice none 0 0]:=Qr;clear j rG b2 Qr;refine wp_region_held (S:=S) (by kernel_rfl) ?_;simp only[Lk,Lc,Lo,Nat.reduceAdd,Li,Lj,Lp,Lm,Ll];show wpAnyH _ _ _ _ _ _ _ _ Qw.drew;generalize Qw.drew=V0 at hS rQ|-;(refine tkH 0 (.pointer (some ⟨G,0,none⟩)) rfl (Qd rfl (λW t=>by(go_simp))) ?_;simp only[Act.put,Qa,Qb,Qc]);(refine tkH 1 (.int .i64 p.params) rfl (Qd rfl (λW t=>by((have c:=(z.out W t).cellv (i:=0) (v:=.int .i64 p.params) rfl;go_simp)))) ?_;simp only[Act.put,Qa,Qb,Qc]);(refine tkH 2 (.pointer (some ⟨G,1,none⟩)) rfl (Qd rfl (λW t=>by(go_simp))) ?_;simp only[Act.put,Qa,Qb,Qc]);(refine tkH 3 (.slice p.va p.V.length p.vcap) rfl (Qd rfl (λW t=>by((have c:=(z.out W t).cellv (i:=1) (v:=.slice p.va p.V.length p.vcap) rfl;go_simp)))) ?_;simp only[Act.put,Qa,Qb,Qc]);(refine tkH 5 (.pointer (some ⟨G,2,none⟩)) rfl (Qd rfl (λW t=>by(go_simp))) ?_;simp only[Act.put,Qa,Qb,Qc]);(refine tkH 6 (.slice p.ba p.body.length p.bcap) rfl (Qd rfl (λW t=>by((have c:=(z.out W t).cellv (i:=2) (v:=.slice p.ba p.body.length p.bcap) rfl;go_simp)))) ?_;simp only[Act.put,Qa,Qb,Qc]);(refine wpAnyH_all (rs:=[4]) (by kernel_rfl) (by simp) (λi hi=>?_);obtain rfl:i=4:=by simpa using hi);refine Qf rfl rfl (λK2 d=>?_);have hok:=S1.out _ hS;obtain⟨A1,k1,V1,g,o,h1,h2,h3,h4, -,ab⟩:=Ek V0 p.va p.vcap p.V hok.vrd (λe=>Lt (by have:=hok.vnil e;have:=hok.vlen;omega)) (by have:=af.out;omega);refine Qn (.slice A1 p.V.length k1) (w1:=V1) (QE rfl g) ?_;refine d _ _ ?_;clear d K2;simp only[Act.put,Qa,Qb,Qc];have q:=ad.go hS o;have y:=rQ.below o rQ.lt;refine⟨q,?_⟩;clear g hok hS rQ o;(refine wpAnyH_all (rs:=[7]) (by kernel_rfl) (by simp) (λi hi=>?_);obtain rfl:i=7:=by simpa using hi);refine Qf rfl rfl (λK2 d=>?_);have hok:=S1.out _ q;obtain⟨A2,k2,V2,g,o,g1,g2,g3,g4, -,u⟩:=Ajq V1 p.ba p.bcap p.body hok.brd (λe=>Lt (by have:=hok.bnil e;have:=hok.blen;omega)) (by have:=ae.out;omega);refine Qn (.slice A2 p.body.length k2) (w1:=V2) (QE rfl g) ?_;refine d _ _ ?_;clear d K2;simp only[Act.put,Qa,Qb,Qc];have s:=ad.go q o;have l:=y.below o y.lt;have aa:=h1.go o;have n:=ab.go o;refine⟨s,?_⟩;clear g hok q y o h1 ab;(refine tkH 8 (.agg #[.int .i64 p.params,.slice A1 p.V.length k1,.slice A2 p.body.length k2]) rfl (Qd rfl (λW t=>by(go_simp))) ?_;simp only[Act.put,Qa,Qb,Qc]);(refine wpAnyH_all (rs:=[9]) (by kernel_rfl) (by simp) (λi hi=>?_);obtain rfl:i=9:=by simpa using hi);refine Qf rfl rfl (λK2 d=>?_);refine Q6 25 _ _ rfl Q #[.int .i64 p.params,.slice A1 p.V.length k1,.slice A2 p.body.length k2] rfl rfl 25 _ l (by kernel_rfl) rfl (by simp[Value.oneCell']) ?_;intro V3 r3 x;refine d _ _ ?_;clear d K2;simp only[Act.put,Qa,Qb,Qc];have ac:=(z.out _ s).only x ag;have b3:=Qp (S2.out _ s) x ah
 have HF:Hid (CopyP p w V3 (.returned (PgV.mk p.params A1 k1 p.V A2 k2 p.body).val)):=⟨⟨_,rfl,rfl,rfl,rfl,⟨m.out.par,h2,h3,h4,Q3 aa n (λi cs r=>r.only x (λe=>by
  subst e;have k:V2.heap[i]? =_:=r;rw[show V2.heap[i]? =_ from l]at k;injection k with k;injection k with _ k;cases k)),m.out.vin,g2,g3,g4,Q3 g1 u (λi cs r=>r.only x (λe=>by
  subst e;have k:V2.heap[i]? =_:=r;rw[show V2.heap[i]? =_ from l]at k;injection k with k;injection k with _ k;cases k)),m.out.bin⟩,n.only x l (by decide),u.only x l (by decide),b3⟩⟩
 refine⟨SI.out _ ac b3,?_⟩;refine wpAnyH_done (by kernel_rfl) ?_ _;clear ac b3 x l s aa n g1 u h2 h3 h4 g2 g3 g4 SI z S1 S2;go_wp2_with fail
 refine bodyPost_ret (results_cell_row Tryz.results26 _ _ Q 25 _ (0,0) _ rfl r3 Tryz.underlying25 rfl (by kernel_rfl)) rfl ?_;exact HF.out
end Go.Proofs.YtkoikjnlpifbjaaGreat
