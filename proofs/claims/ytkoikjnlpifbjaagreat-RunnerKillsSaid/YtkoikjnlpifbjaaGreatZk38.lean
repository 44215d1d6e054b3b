/- Lemmas for RunnerKillsP. -/
import Derived.Test.YtkoikjnlpifbjaaGreatZk37
import Derived.Test.YtkoikjnlpifbjaaGreatZk19
import Derived.Test.YtkoikjnlpifbjaaGreatZk20
import Derived.Test.YtkoikjnlpifbjaaGreatZk12
import Derived.Test.YtkoikjnlpifbjaaGreatZk29
import Derived.Test.YtkoikjnlpifbjaaGreatZk32
import Derived.Test.YtkoikjnlpifbjaaGreatZk24
import Derived.Test.YtkoikjnlpifbjaaGreatZk17
import Derived.Test.YtkoikjnlpifbjaaGreatZk1
set_option linter.unusedVariables false
set_option linter.unusedSimpArgs false
set_option maxRecDepth 100000
set_option maxHeartbeats 16000000
namespace Go.Proofs.YtkoikjnlpifbjaaGreat
open Go.RowKit Go.Deep
structure LikeP (p q:PgV):Prop where
 par:q.params=p.params
 vars:q.V=p.V
 body:q.body=p.body
theorem LikeP.fine{p q:PgV}(h:LikeP p q)(t:Tr):Fine q t<->Fine p t:=
 ⟨λk=>⟨(Ji h.par h.vars h.body).1 k.good,h.body▸k.len,h.body▸k.ar,k.dep⟩,λk=>⟨(Ji h.par h.vars h.body).2 k.good,h.body.symm▸k.len,h.body.symm▸k.ar,k.dep⟩⟩
theorem LikeP.check{p q:PgV}(h:LikeP p q):QX q=QX p:=by
 have c:Good q=Good p:=funext λt=>propext (Ji h.par h.vars h.body)
 unfold QX;rw[h.par,h.vars,h.body,c]
theorem LikeP.base{p q:PgV}(h:LikeP p q)(ts:List (List Int))(fuel:Int):Zo q ts fuel=Zo p ts fuel:=by
 unfold Zo;rw[h.check,h.par]
theorem LikeP.mutb{p q:PgV}(h:LikeP p q)(d:Dl):mutB q d=mutB p d:=by
 have c:Fine q=Fine p:=funext λt=>propext (h.fine t)
 unfold Go.Proofs.YtkoikjnlpifbjaaGreat.mutB;rw[h.body,c]
theorem LikeP.mutc{p q:PgV}(h:LikeP p q)(d:Dl):mutC q d=mutC p d:=by
 have c:Fine q=Fine p:=funext λt=>propext (h.fine t)
 unfold Go.Proofs.YtkoikjnlpifbjaaGreat.mutC;rw[h.check,h.body,c]
theorem LikeP.judC{p q:PgV}(h:LikeP p q)(d:Dl)(ts:List (List Int))(fuel:Int):Kt q d ts fuel=Kt p d ts fuel:=by
 unfold Kt;rw[h.base,h.mutc]
theorem LikeP.jud{p q:PgV}(h:LikeP p q)(d:Dl)(ts:List (List Int))(fuel:Int):QV q d ts fuel=QV p d ts fuel:=by
 have c:rnZ q fuel=rnZ p fuel:=XZ h.par h.vars h.body fuel;have e:rnZ (JS q d) fuel=rnZ (JS p d) fuel:=XZ (p:=JS q d) (q:=JS p d) h.par h.vars (h.mutb d) fuel;unfold QV;rw[c,e]
structure RunS (p:PgV)(ts:List (List Int))(fuel:Int)(k:Nat)(R:RnV):Prop where
 q:LikeP p R.q
 hts:R.ts.map IntsV.l=ts
 hf:R.fuel=fuel
 xs:∀t,Fine p t->R.xs.map DlV.d=Ze p.body t
 n:R.n=min k R.xs.length
 ms:R.ms.map MtV.m=((R.xs.map DlV.d).take R.n).map (λd=>QV p d ts fuel)
 xl:R.xs.length<=20000
 base:Zo p ts fuel=0
theorem RunS.len{p:PgV}{ts:List (List Int)}{fuel:Int}{k:Nat}{R:RnV}(h:RunS p ts fuel k R):R.ms.length=R.n:=by
 have c:=congrArg List.length h.ms;have d:=h.n;rw[Lu,Lu,L1,Lu]at c;omega
theorem RunS.chk{p:PgV}{ts:List (List Int)}{fuel:Int}{k:Nat}{R:RnV}(h:RunS p ts fuel k R):QX p=0:=by
 have d:=h.base;unfold Zo at d;split at d
 ·rename_i c;exact absurd d c
 ·rename_i c;simpa using c
theorem RunS.tl{p:PgV}{ts:List (List Int)}{fuel:Int}{k:Nat}{R:RnV}(h:RunS p ts fuel k R):R.ts.length<=20:=by
 have c:=h.base;unfold Zo at c;split at c
 ·rename_i d;exact absurd c d
 ·have:=(X0 c).2.1;rw[<-h.hts,Lu]at this;exact this
theorem Aa5{lo:Nat}{p:PgV}{ts:List (List Int)}{fuel:Int}{k:Nat}(R:RnV)(W:World)(h:RnIn lo R W)(hs:RunS p ts fuel k R)(hbl:p.body.length<=40):
 Calls Tryz.prog 11 #[.pointer (some ⟨R.g,0,none⟩)] W λe w'=>∃c:CpV,e=.returned (.agg c.cells)/\CpOk w' c/\CpT w' c/\c.data=⟨p.params,p.V,p.body,ts,fuel,((R.xs.map DlV.d).take R.n).map (λd=>QV p d ts fuel),QF (((R.xs.map DlV.d).take R.n).map (λd=>QV p d ts fuel))⟩/\Below W.heap.size W w':=by
 refine(AhJ R W h (by rw[hs.q.body];omega) (by rw[hs.q.vars];exact AaB hs.chk) (by have:=hs.tl;omega) (YS (by rw[hs.hts];exact hs.base)) (by rw[hs.len];have:=hs.n;have:=hs.xl;omega)).mono ?_;rintro e w' ⟨c,rfl,i,j,l,m⟩;exact⟨c,rfl,i,j,l.trans (by rw[hs.q.par,hs.q.vars,hs.q.body,hs.hts,hs.hf,hs.ms]),m⟩
structure NextS (lo:Nat)(p:PgV)(ts:List (List Int))(fuel:Int)(k:Nat)(R R':RnV)(W w':World):Prop where
 rn:RnIn lo R' w'
 s:RunS p ts fuel (k+1) R'
 g:R'.g=R.g
 xs:R'.xs=R.xs
 kp:KpW (λi=>i=R.g\/R.mv.ownBlock=some i) W w'
 own:R'.mv.ownBlock=R.mv.ownBlock\/∀k,R'.mv.ownBlock=some k->W.heap.size<=k
 tk:TKeep W w'
 low:Below lo W w'
theorem RnIn.tk{lo:Nat}{R:RnV}{W W':World}(h:RnIn lo R W)(k:KpW (λi=>i=R.g\/R.mv.ownBlock=some i) W W'):TKeep W W':=λi t cs r a b=>k.row r (λe=>by
 rcases e with e|e
 ·exact ZW r h.row a e
 ·exact Qz h.own r (λx=>b x.symm) e)
theorem RnIn.lo{lo:Nat}{R:RnV}{W W':World}(h:RnIn lo R W)(hlo:lo<=W.heap.size)(k:KpW (λi=>i=R.g\/R.mv.ownBlock=some i) W W'):Below lo W W':=k.below hlo (λi e=>by
 rcases e with rfl|e
 ·exact h.glo
 ·exact QQ h.own e)
theorem Abw{lo:Nat}{p:PgV}{ts:List (List Int)}{fuel:Int}{k:Nat}(R:RnV)(W:World)(h:RnIn lo R W)(hs:RunS p ts fuel k R)(hlo:lo<=W.heap.size)(hbl:p.body.length<=40):
 Calls Tryz.prog 9 #[.pointer (some ⟨R.g,0,none⟩)] W λe w'=>∃R',e=.returned (.bool (decide (k<R.xs.length)))/\NextS lo p ts fuel k R R' W w':=by
 have hn:=hs.n;have hx:=hs.xl;have hts:(R.ts.map IntsV.l).length=R.ts.length:=by simp
 by_cases c:k<R.xs.length
 ·have w:R.n=k:=by omega
  rw[decide_eq_true c];obtain⟨x,i⟩:∃x,R.xs[k]? =some x:=⟨_,Lb c⟩;have j:=hs.base;rw[<-hs.hts]at j;have u:=YS j;have hl:=hs.tl;have v:∀t,Fine p t->x.d∈Ze p.body t:=λt o=>by rw[<-hs.xs t o];exact Nb (Lf i)
  have hj:Kt R.q x.d (R.ts.map IntsV.l) R.fuel=0:=by
   rw[hs.q.judC,hs.hts,hs.hf];unfold Kt;rw[if_neg (by rw[hs.base];simp)];obtain⟨t,o⟩:=checkP_ok.1 hs.chk;exact Afc o (v t o)
  refine(Aiw R x W h hlo (by rw[w];exact i) hs.len (by omega) (by rw[hs.q.body];exact hbl) hl u hj).mono ?_;rintro e w' ⟨rfl,bv,mv,y,z,h2,s,h4⟩;refine⟨_,rfl,z,⟨hs.q,hs.hts,hs.hf,hs.xs,?_,?_,hs.xl,hs.base⟩,rfl,rfl,s,h4,h.tk s,h.lo hlo s⟩
  ·show R.n+1=min (k+1) R.xs.length;omega
  ·show(R.ms++[y]).map MtV.m=((R.xs.map DlV.d).take (R.n+1)).map _;rw[LN,hs.ms,L9,LN,L4,w,i];simp only[LP,Nv,Nq,Option.toList_some];rw[h2,hs.q.jud,hs.hts,hs.hf]
 ·rw[decide_eq_false c];refine(AdN R W h (by omega) (by omega)).mono ?_;rintro e w' ⟨rfl,b⟩;exact⟨R,rfl,h.go b,⟨hs.q,hs.hts,hs.hf,hs.xs,by omega,hs.ms,hs.xl,hs.base⟩,rfl,rfl,KpW.of_below b,.inl rfl,.below b,b.mono hlo⟩
structure RunC (p:PgV)(ts:List (List Int))(fuel:Int)(w w':World)(e:Ending):Prop where
 no:Zo p ts fuel≠0->e=.returned (.tuple #[.agg cp0.cells,.int .i64 (Zo p ts fuel)])
 yes:Zo p ts fuel=0->∃c:CpV,e=.returned (.tuple #[.agg c.cells,.int .i64 0])/\CpOk w' c/\∀t,Fine p t->c.data=⟨p.params,p.V,p.body,ts,fuel,(Ze p.body t).map (λd=>QV p d ts fuel),QF ((Ze p.body t).map (λd=>QV p d ts fuel))⟩
 low:Below w.heap.size w w'
theorem Ack (p:PgV)(A:Option Addr)(cap:Nat)(ts:List IntsV)(fuel:Int)(w:World)(hok:p.ok w)(hbl:p.body.length<=40)(hr:Rd w A (Jo ts))(hot:∀x∈ts,x.ok w)(hl:ts.length<=1000):
 Calls Tryz.prog 14 #[.agg p.cells,.slice A ts.length cap,.int .i64 fuel] w λe w'=>RunC p (ts.map IntsV.l) fuel w w' e:=by
 have am:=Lh hbl;have Hn:Hid (∀W,Below w.heap.size w W->_):=λW b=>Ab6 p A cap ts fuel W (hok.go b) (by omega) (hr.go b) (λx hx=>(hot x hx).go b) hl;clear hok hr hot hbl hl;go_enter Tryz.func14,Tryz.ntmps14
 go_wp2_with (refine Qq _ _ rfl ?_)
 refine Stop.to ?_;refine Qe rfl 25 _ rfl p.cells rfl ?_;intro G w1 hG rG bG;have b1:Below w.heap.size w w1:=bG.mono hG;have ap:w.heap.size<=G:=hG;clear bG hG;go_wp2_with (refine QH _ rfl ?_)
 refine Stop.to ?_;refine Qj rfl 38 rfl _ _ (K6 _) rfl ?_;intro C w2 hC rC bC;have b2:Below w.heap.size w w2:=b1.trans ((bC.mono hC).mono b1.size);have ab:Hid (w.heap.size<=C):=Ld b1.size hC;have ay:=rG.below (bC.mono hC) rG.lt;clear b1 bC hC rG ap;go_wp2_with (refine wpList_load_row rfl 25 _ rfl G rfl 25 p.cells (0,0) _ ay Tryz.underlying25 rfl (by kernel_rfl) ?_)
 refine(Hn.out w2 b2).mono ?_;rintro e w3 j;clear Hn ay;have b3:=b2.trans (j.low.mono b2.size);have aa:=rC.below j.low rC.lt;by_cases hz:Zo p (ts.map IntsV.l) fuel=0
 ·obtain⟨R,rfl,hR,⟨q1,q2,q3⟩,av,hf,m,aw,aj,au,a0⟩:=j.yes hz;have hS:RunS p (ts.map IntsV.l) fuel 0 R:=⟨⟨q1,q2,q3⟩,av,hf,m,by rw[aj];omega,by rw[au,aj];rfl,aw,hz⟩;have o:w.heap.size<=w2.heap.size:=b2.size;have ag:C<w2.heap.size:=rC.lt;obtain⟨lo,y⟩:∃lo,lo=w2.heap.size:=⟨_,rfl⟩;rw[<-y]at hR o ag;have an:=Lh o;have a2:=Lh ag;have Hz:=Lh hz;obtain⟨g,z⟩:∃g,g=R.g:=⟨_,rfl⟩;obtain⟨xs,ac⟩:∃xs,xs=R.xs:=⟨_,rfl⟩;have hrel:∃k u,u.g=g/\u.xs=xs/\k<=xs.length/\RnIn lo u w3/\RunS p (ts.map IntsV.l) fuel k u/\lo<=w3.heap.size/\Row w3 C 38 cp0.cells/\Below w.heap.size w w3:=⟨0,R,z.symm,ac.symm,Nat.zero_le _,hR,hS,by rw[y];exact j.low.size,aa,b3⟩;rw[<-z];clear j b2 b3 aa rC y hz o ag hR hS q1 q2 q3 av hf m aw aj au a0 z ac;go_wp2_with fail
  go_loopw [21] (λ_ W=>∃k u,u.g=g/\u.xs=xs/\k<=xs.length/\RnIn lo u W/\RunS p (ts.map IntsV.l) fuel k u/\lo<=W.heap.size/\Row W C 38 cp0.cells/\Below w.heap.size w W) (λ_ W=>xs.length-(intOf ((W.cell? ⟨g,6,none⟩).getD undef)).toNat)
  case atStart=>exact hrel
  case round=>
   obtain⟨k,u,z,m,hk,hR,hS,o,hC,hb⟩:=hrel;have j:=Abw u wr hR hS o (by have:=am.out;omega);rw[z]at j;have HN:=Lh j;have HC:=Lh hC;have Hb:=Lh hb;have HR:=Lh hR;have HS:=Lh hS;clear j hR hS hC hb;go_wp2_with fail
   refine HN.out.mono ?_;rintro e w9 ⟨R2,rfl,j⟩;rw[m];by_cases ai:k<xs.length
   ·rw[decide_eq_true ai];have d:=Lh j;clear j;go_wp2_with fail
    go_roundw
    case rel=>exact⟨k+1,R2,d.out.g.trans z,d.out.xs.trans m,ai,d.out.rn,d.out.s,Ld o (d.out.low.size),d.out.tk _ _ _ HC.out (by decide) (by decide),Hb.out.trans (d.out.low.mono an.out)⟩
    case measure=>
     have c1:=HR.out.row.cellv (i:=6) (v:=.int .i64 (u.n:Int)) rfl;have c2:=d.out.rn.row.cellv (i:=6) (v:=.int .i64 (R2.n:Int)) rfl;rw[z]at c1;rw[d.out.g,z]at c2;rw[c1,c2];have h1:=HS.out.n;have h2:=d.out.s.n;rw[m]at h1;rw[d.out.xs,m]at h2;simp[intOf];omega
   ·rw[decide_eq_false ai];have aq:=Lh j.s;have ah:=Hb.out.trans (j.low.mono an.out);have af:=j.tk _ _ _ HC.out (by decide) (by decide);have ar:=j.g.trans z;have ax:=Lh (j.xs.trans m);have hK:=Aa5 R2 w9 j.rn j.s (by have:=am.out;omega);rw[ar]at hK;have HK:=Lh hK;clear j hK HN HR HS HC Hb ar;go_wp2_with fail
    refine HK.out.mono ?_;rintro e a3 ⟨c,rfl,hok,hT,hd,ad⟩;have ae:=af.below ad af.lt;have ao:=ah.trans (ad.mono ah.size);have az:=Lh hok;have HT:=Lh hT;have Hd:=Lh hd;clear hok hT hd ad HK af ah;go_wp2_with (refine Qs _ _ _ rfl ?_)
    refine Stop.to ?_;refine Qk rfl 38 _ _ rfl C c.cells rfl rfl 38 _ ae (by kernel_rfl) rfl (by simp[CpV.cells,Value.oneCell']) ?_;intro al ak q
    have HF:Hid (RunC p (ts.map IntsV.l) fuel w al (.returned (.tuple #[.agg c.cells,.int .i64 0]))):=⟨λh=>absurd Hz.out h,λ_=>⟨c,rfl,az.out.onlyT HT.out q ae,λt ht=>Hd.out.trans (by
     have h1:=aq.out.n
     have h2:=aq.out.xs t ht
     rw[ax.out]at h1 h2
     rw[ax.out,L7 (by rw[Lu];omega),h2])⟩,Qp ao q (Ld (Nat.le_refl _) ab.out)⟩
    clear ae ao q;go_wp2_with fail
    refine bodyPost_ret (QZ Tryz.results14 _ _ C 38 _ (0,0) _ rfl ak Tryz.underlying38 rfl (by kernel_rfl)) rfl ?_;exact HF.out
 ·have a1:(Zo p (ts.map IntsV.l) fuel != 0)=true:=by simpa using hz
  have he:=j.no hz;subst he;have Hz:=Lh hz;have Hb:=Lh b3;clear j hz b3;go_wp2_with (refine Qs _ _ _ rfl ?_)
  refine Stop.to ?_;refine Qk rfl 38 _ _ rfl C cp0.cells rfl rfl 38 _ aa (by kernel_rfl) rfl (by simp[CpV.cells,cp0,Value.oneCell']) ?_;intro al ak q;have HF:Hid (RunC p (ts.map IntsV.l) fuel w al (.returned (.tuple #[.agg cp0.cells,.int .i64 (Zo p (ts.map IntsV.l) fuel)]))):=⟨λ_=>rfl,λh=>absurd h Hz.out,Qp Hb.out q ab.out⟩;clear aa q Hb a1;go_wp2_with fail
  refine bodyPost_ret (QZ Tryz.results14 _ _ C 38 _ (0,0) _ rfl ak Tryz.underlying38 rfl (by kernel_rfl)) rfl ?_;exact HF.out
def Sc.small (s:Sc):Prop:=(0<=s.alive/\s.alive<=1000000)/\(0<=s.killed/\s.killed<=1000000)/\(0<=s.timeout/\s.timeout<=1000000)
def Sc.add (a b:Sc):Sc:=⟨a.alive+b.alive,a.killed+b.killed,a.timeout+b.timeout⟩
theorem AaR{m:Mt}(h:Xo m=true):m.verdict≠ -1:=by
 intro e;unfold Xo at h;rw[e]at h;simp at h
theorem OkC.verdict{c:CpV}(h:OkC c){m:Mt}(hm:m∈c.muts):m.verdict≠ -1:=by
 have:=h.odd m hm;unfold Ak5 at this;cases hr:Xo m
 ·rw[hr]at this;simp at this
 ·exact AaR hr
end Go.Proofs.YtkoikjnlpifbjaaGreat
namespace Go.Proofs.YtkoikjnlpifbjaaGreat
open Go.ChangeShapes Go.WideShapes Go.RowKit Go.Deep
section
variable {H:Type} {enc:TypeId×Value->H} {w:World} {base:Nat} {spare:Nat->Bool} {held:Bool}
theorem AdV{fuel:Nat}{cs:List Value}{x:DataW H×List MemPlace}(h:DataW.trod enc Tryz.prog w base spare held fuel 26 cs=some x):
 ∃(A:Option Addr) (cap:Nat) (l:List IntsV),cs=[.slice A l.length cap]/\l.length<=cap/\cap<=maxLen/\(A=none->cap=0)/\Rd w A (Jo l)/\∀e∈l,e.ok w:=by
 obtain⟨A,cap,i,rfl,d,j,o,p,k,m⟩:=Vj Tryz.underlying26 h;obtain⟨l,rfl,c⟩:=US (λx:IntsV=>[x.val]) (λx=>x.ok w) i (λt g=>by obtain⟨n,y,s⟩:=m t g;obtain⟨r,q,e⟩:=E4 s;exact⟨r,e,q⟩);rw[Lu]at d;refine⟨A,cap,l,by rw[Lu],d,j,o,?_,c⟩
 rw[show Jo l=(l.map λx:IntsV=>[x.val]).flatten from by
  clear d j o p k m c h
  induction l with
  |nil=>rfl
  |cons x l ih=>simp only[Jo,LP,List.flatten_cons,List.singleton_append]at ih|-;rw[<-ih]]
 exact k
end
end Go.Proofs.YtkoikjnlpifbjaaGreat
namespace Go.Proofs.YtkoikjnlpifbjaaGreat
open Go.RowKit Go.Deep
theorem Ace{W:World}{g:Nat}{t:TypeId}{cs:List Value}(h:Row W g t cs.toArray):Rd W (some ⟨g,0,none⟩) cs:=Jz h
theorem AjT:(Tryz.prog.info? 65).map (λi=>(i.zero,i.size))=some (some (.agg #[.int .i64 0,.int .i64 0]),2):=by kernel_rfl
theorem AfZ:(Tryz.prog.info? 22).map (λi=>(i.zero,i.size))=some (some (.slice none 0 0),1):=by kernel_rfl
theorem Aji{w:World}:(zeroValue 25).run Tryz.prog w=.ok (.agg #[.int .i64 0,.slice none 0 0,.slice none 0 0]) w:=by kernel_rfl
theorem AiN{W:World}{g:Nat}{t:TypeId}{cs:List Value}(h:Row W g t cs.toArray):Rd W (some ⟨g,0,none⟩) cs:=λj u hj=>⟨_,rfl,by
 have:=h.cellv (i:=j) (v:=u) (by simpa using hj)
 unfold Addr.add
 by_cases h0:j=0
 ·subst h0;exact this
 ·rw[if_neg h0];simpa using this⟩
def Ae6 (params:Int)(V:List Int)(body:List Nd)(g1 g2:Nat):PgV:=⟨params,some ⟨g1,0,none⟩,V.length,V,some ⟨g2,0,none⟩,body.length,body⟩
theorem Aj3{params:Int}{V:List Int}{body:List Nd}{g1 g2:Nat}{W:World}(hp:InI params)(hv:∀t∈V,InI t)(hb:∀x∈body,InI x.tag/\InI x.n)(h1:V.length<=maxLen)(h2:body.length<=maxLen)
 (r1:Row W g1 3 (Qi V).toArray) (r2:Row W g2 65 (body.flatMap Nd.cells).toArray):(Ae6 params V body g1 g2).ok W:=
 ⟨hp,Nat.le_refl _,h1,λh=>(by cases h),AiN r1,hv,Nat.le_refl _,h2,λh=>(by cases h),AiN r2,hb⟩
theorem Akn{p:PgV}{t:Tr}{args:List Int}{fuel v:Int}{s:Ms}{w:World}(hok:p.ok w)(hin:∀a∈args,InI a)(hc:Q7 p args.length fuel=0)(hg:Good p t)(he:evG (fuel.toNat+1) (.one t) (Zk p.V args fuel.toNat)=(v,s)):QG p args fuel=s.stopped 3 0:=by
 obtain⟨h,i,g,c⟩:=Y2 hok hin hc;have:=c.good.hat.uniq hg.hat;subst this;have d:=c.big.ev (fuel.toNat+1) (by simp[Zk]);rw[he]at d;have e:s=g:=congrArg Prod.snd d;rw[c.eq,e]
theorem AkF{params:Int}{V:List Int}{body:List Nd}(w:World)(hp:InI params)(hv:∀t∈V,InI t)(hb:∀x∈body,InI x.tag/\InI x.n)(h1:V.length<=maxLen)(h2:body.length<=maxLen):∃W g1 g2,(Ae6 params V body g1 g2).ok W:=by
 have c:=Row.new w 3 (Qi V).toArray;have d:=Row.new (w.alloc (.cells (Qi V).toArray 3)) 65 (body.flatMap Nd.cells).toArray;have b:Below (w.alloc (.cells (Qi V).toArray 3)).heap.size (w.alloc (.cells (Qi V).toArray 3)) ((w.alloc (.cells (Qi V).toArray 3)).alloc (.cells (body.flatMap Nd.cells).toArray 65)):=(Below.refl _ _).alloc (Nat.le_refl _) _;exact⟨_,_,_,Aj3 hp hv hb h1 h2 (c.below b c.lt) d⟩
section
variable {α:Type} (f:α->Rn) (g:Dl->α->Rn) (ts:List α)
def Er (ds:List Dl):List Mt:=ds.map λd=>Za f (g d) d ts
variable {f g ts}
theorem Agu{ds:List Dl}:(Er f g ts ds).length=ds.length:=by unfold Er;simp
theorem U9{ds:List Dl}{m:Mt}(h:m∈Er f g ts ds):m.d∈ds/\m=Za f (g m.d) m.d ts:=by
 unfold Er at h;obtain⟨d,c,rfl⟩:=LK.1 h;exact⟨by rw[Yg];exact c,by rw[Yg]⟩
theorem Es:∀{ds:List Dl},YI ds->AiP (Er f g ts ds)
 |[],_=>trivial
 |[_],_=>trivial
 |a::b::l,h=>⟨by rw[Yg,Yg];exact h.1,Es (ds:=b::l) h.2⟩
end
theorem VB{α β:Type}{f:α->List β}{k:Nat}:∀{l:List α},(∀a∈l,(f a).length<=k)->(l.flatMap f).length<=k*l.length
 |[],_=>by simp
 |a::l,h=>by
  have h1:=h a (by simp)
  have h2:=VB (f:=f) (l:=l) λb hb=>h b (by simp[hb])
  rw[L8,Le,Lc,Nat.mul_add]
  omega
theorem AhD{l:List Nd}{t:Tr}(hw:Whole l t)(ha:∀x∈l,¬Qv x<0):(Ze l t).length<=100*l.length:=by
 unfold Ze
 have h:=VB (f:=λe:Nat×List Int=>(Ja l e.1).map λc=>(⟨e.2,c.1,c.2⟩:Dl)) (k:=100) (l:=Q5 [] 0 t) λe i=>by
  obtain⟨q,π⟩:=e;rw[Lu];obtain⟨k,j⟩:=(J7 t [] 0 q π).1 (by simpa using i);have hat:=UA hw.hat j;have m:=hat.lt
  have d:¬Qv k.root<0:=by
   obtain⟨r,d⟩:=hat.here
   have g:l[q]? =some k.root:=by
    have:=congrArg (·[0]?) d;obtain⟨x,n⟩:=k;simpa[Nn,Tr.flat,Tr.root]using this
   exact ha _ (Lf g)
  exact X9 l q hat d
 rwa[Jk,hw.size]at h
theorem Ajx{α:Type}{f:α->Rn}{g:Dl->α->Rn}{ts:List α}{c:CpV}{t:Tr}(hf:Fine c.p t)(hs:Z3 c.p.params c.testsL c.fuel=0)(hb:c.p.body.length<=20)(hm:c.muts=Er f g ts (Ze c.p.body t))(ht:c.testsL.length=ts.length)
 (hg:∀d∈Ze c.p.body t,∀a∈ts,0<=(g d a).kind/\(g d a).kind<=4/\((g d a).kind=0\/(g d a).value=0)/\(g d a).dig.length=32) (hsc:c.sc=QF c.muts):OkC c:=by
 have k:ts.length<=20:=by
  rw[<-ht];have h:=hs;unfold Z3 at h;by_cases i:c.testsL.length<1\/20<c.testsL.length
  ·rw[if_pos i]at h;cases h
  ·omega
 refine⟨checkP_ok.2 ⟨t,hf⟩,hs,?_,?_,λm e=>?_,λm e=>?_,hsc⟩
 ·rw[hm,Agu];have:=AhD hf.good.whole hf.ar;omega
 ·rw[hm];exact Es (U7 _ _)
 ·rw[hm]at e;exact(Aig hf _).2 (U9 e).1
 ·rw[hm]at e;obtain⟨i,j⟩:=VC (f:=f) (g:=g m.d) (d:=m.d) k (hg m.d (U9 e).1);rw[<-(U9 e).2]at i j;unfold Ak5;rw[i,ht];simpa using j
theorem Ya (l:List Mt)(v:Int):0<=ZM l v/\ZM l v<=l.length:=by
 unfold ZM;have:=Ns (λm:Mt=>m.verdict==v) l;omega
theorem Ad5 (l:List Mt)(h:l.length<=100000):(QF l).small:=by
 have c:=Ya l 0;have d:=Ya l 1;have e:=Ya l 2;unfold Sc.small QF;exact⟨⟨c.1,by show ZM l 0<=_;omega⟩,⟨d.1,by show ZM l 1<=_;omega⟩,e.1,by show ZM l 2<=_;omega⟩
def Sc.tot (s:Sc):Int:=s.alive+s.killed+s.timeout
theorem Yz (m:Mt)(l:List Mt)(v:Int):ZM (m::l) v=(if m.verdict=v then 1 else 0)+ZM l v:=by
 unfold ZM;rw[List.filter_cons];by_cases h:m.verdict=v<;>simp[h];omega
theorem Afw{l:List Mt}(h:∀m∈l,Xo m=true):(QF l).tot=l.length:=by
 induction l with
 |nil=>rfl
 |cons m l ih=>
  have g:=ih (λx n=>h x (N9 _ n));have c:=h m (List.mem_cons_self);unfold Sc.tot QF at g|-;dsimp only at g|-;rw[Yz,Yz,Yz,Lc]
  have k:m.verdict=0\/m.verdict=1\/m.verdict=2:=by
   unfold Xo at c;by_cases d:m.verdict=0
   ·exact .inl d
   ·by_cases i:m.verdict=1
    ·exact .inr (.inl i)
    ·by_cases j:m.verdict=2
     ·exact .inr (.inr j)
     ·rw[if_neg d,if_neg i,if_neg j]at c;cases c
  rcases k with e|e|e<;>rw[e]<;>simp<;>omega
theorem AiS{p:PgV}{args:List Int}{fuel:Int}(w:World)(hin:∀a∈args,InI a)(hp:InI p.params)(hv:∀t∈p.V,InI t)(hb:∀x∈p.body,InI x.tag/\InI x.n)(h1:p.V.length<=maxLen)(h2:p.body.length<=maxLen):0<=(rnZ p fuel args).kind/\(rnZ p fuel args).kind<=4/\((rnZ p fuel args).kind=0\/(rnZ p fuel args).value=0)/\(rnZ p fuel args).dig.length=32:=by
 have c:(rnZ p fuel args).dig.length=32:=Ac8 _;by_cases h:Q7 p args.length fuel=0
 ·obtain⟨W,e,g,d⟩:=AkF (params:=p.params) (V:=p.V) (body:=p.body) w hp hv hb h1 h2;rw[XZ (p:=p) (q:=Ae6 p.params p.V p.body e g) rfl rfl rfl fuel]at c|-;obtain⟨t,v,s,i⟩:=Y2 (fuel:=fuel) d hin ((Ux (p:=p) (q:=Ae6 p.params p.V p.body e g) rfl rfl rfl args.length fuel).symm.trans h);obtain⟨k,x,j,l⟩:=i.kind;unfold rnZ at c|-;rw[j];show 0<=k/\k<=4/\(k=0\/x=0)/\_;exact⟨by omega,by omega,by omega,c⟩
 ·unfold rnZ at c|-;rw[Y3 h]at c|-;exact⟨by decide,by decide,.inl rfl,c⟩
theorem Aiv{p:PgV}{t:Tr}{d:Dl}{args:List Int}{fuel:Int}{w:World}(hok:p.ok w)(hf:Fine p t)(hd:d∈Ze p.body t)(hin:∀a∈args,InI a):0<=(rnZ (JS p d) fuel args).kind/\(rnZ (JS p d) fuel args).kind<=4/\((rnZ (JS p d) fuel args).kind=0\/(rnZ (JS p d) fuel args).value=0)/\(rnZ (JS p d) fuel args).dig.length=32:=by
 obtain⟨q,k,c,_⟩:=hf.good.change hd;have g:=AcP hf.good hd c hok.bin;have e:=Ea hf c;refine AiS w hin hok.par hok.vin (by show ∀x∈mutB p d,_;rw[e];exact g.1) (Ld hok.vlen hok.vmax) ?_;show(mutB p d).length<=maxLen;rw[e];have:=g.2;have:=hf.len;unfold maxLen;omega
theorem Aa4{p:PgV}{ts:List (List Int)}{fuel:Int}(h:Zo p ts fuel=0):(∃t,Fine p t)/\Z3 p.params ts fuel=0:=by
 unfold Zo at h;split at h
 ·rename_i c;exact absurd h c
 ·rename_i c;exact⟨checkP_ok.1 (by simpa using c),h⟩
structure CampF (p:PgV)(t:Tr)(c:CpV):Prop where
 ok:OkC c
 len:c.mts.length=(Ze p.body t).length
 small:c.sc.small
 tot:c.sc.tot=((Ze p.body t).length:Int)
theorem Aey{p:PgV}{ts:List (List Int)}{fuel:Int}{t:Tr}{c:CpV}{w:World}(hok:p.ok w)(h0:Zo p ts fuel=0)(hf:Fine p t)(hb:p.body.length<=20)(hin:∀l∈ts,∀a∈l,InI a)
 (hd:c.data=⟨p.params,p.V,p.body,ts,fuel,(Ze p.body t).map (λd=>QV p d ts fuel),QF ((Ze p.body t).map λd=>QV p d ts fuel)⟩):CampF p t c:=by
 obtain⟨i,v,x,e,o,mA,mc,k,sc⟩:=c;have y:i.params=p.params:=congrArg Cd.params hd;have e2:i.V=p.V:=congrArg Cd.V hd;have q:i.body=p.body:=congrArg Cd.body hd;have z:e.map IntsV.l=ts:=congrArg Cd.tests hd;have e5:o=fuel:=congrArg Cd.fuel hd;have s:k.map MtV.m=(Ze p.body t).map (λd=>QV p d ts fuel):=congrArg Cd.muts hd;have u:sc=QF ((Ze p.body t).map λd=>QV p d ts fuel):=congrArg Cd.sc hd;have hs:=(Aa4 h0).2;have hl:=(X0 hs).2.1;have hg:∀d∈Ze p.body t,∀a∈ts,0<=(rnZ (JS p d) fuel a).kind/\(rnZ (JS p d) fuel a).kind<=4/\((rnZ (JS p d) fuel a).kind=0\/(rnZ (JS p d) fuel a).value=0)/\(rnZ (JS p d) fuel a).dig.length=32:=λd j a ha=>Aiv hok hf j (hin a ha);have n:k.length=(Ze p.body t).length:=by have h:=congrArg List.length s;rwa[Lu,Lu]at h
 have ok:OkC (CpV.mk i v x e o mA mc k sc):=Ajx (f:=rnZ p fuel) (g:=λd=>rnZ (JS p d) fuel) (ts:=ts) (t:=t) (LikeP.fine ⟨y,e2,q⟩ t |>.2 hf) (by show Z3 i.params (e.map IntsV.l) o=0;rw[y,z,e5];exact hs) (by show i.body.length<=20;rw[q];exact hb) (by show k.map MtV.m=Er _ _ ts (Ze i.body t);rw[q];exact s) (by show(e.map IntsV.l).length=_;rw[z]) (by show ∀d∈Ze i.body t,_;rw[q];exact hg) (by show sc=QF (k.map MtV.m);rw[s];exact u)
 have hr:∀m∈(Ze p.body t).map (λd=>QV p d ts fuel),Xo m=true:=λm hm=>by
  obtain⟨d,j,rfl⟩:=LK.1 hm;exact(VC hl (hg d j)).1
 have aa:((Ze p.body t).map λd=>QV p d ts fuel).length<=2000:=by have:=ok.len;rwa[show(CpV.mk i v x e o mA mc k sc).muts=k.map MtV.m from rfl,s]at this
 refine⟨ok,n,?_,?_⟩
 ·show sc.small;rw[u];exact Ad5 _ (by omega)
 ·show sc.tot=_;rw[u,Afw hr,Lu]
instance St.mtT{y:MtV}:St (λW=>MtT W y):=⟨λh b=>h.go b⟩
theorem V8{p:PgV}{d:Dl}{ts:List (List Int)}{fuel:Int}{k:Nat}{l:List Int}(hl:ts[k]? =some l):
 (Q2 (rnZ p fuel l) (rnZ (JS p d) fuel l)=1->(QV p d ts fuel).verdict=1/\(QV p d ts fuel).test<=(k:Int))/\((QV p d ts fuel).verdict=1->(QV p d ts fuel).test=(k:Int)->Q2 (rnZ p fuel l) (rnZ (JS p d) fuel l)=1):=by
 have o:(QV p d ts fuel).verdict=1->∃i a,ts[i]? =some a/\(QV p d ts fuel).test=(i:Nat)/\Q2 (rnZ p fuel a) (rnZ (JS p d) fuel a)=1/\∀j b,j<i->ts[j]? =some b->Q2 (rnZ p fuel b) (rnZ (JS p d) fuel b)≠1:=λg=>by
  have t:(Za (rnZ p fuel) (rnZ (JS p d) fuel) d ts).verdict≠0:=by show(QV p d ts fuel).verdict≠0;rw[g];decide
  obtain⟨i,a,hi,y,_,c⟩:=ER t;have m:QV p d ts fuel=_:=y;have n:Q2 (rnZ p fuel a) (rnZ (JS p d) fuel a)=1:=by rw[m]at g;exact g
  exact⟨i,a,hi,by rw[m],n,λj b w v e=>c j b w v (e.trans n.symm)⟩
 refine⟨λh=>?_,λg q=>?_⟩
 ·have g:(QV p d ts fuel).verdict=1:=judge_killed.2 ⟨l,Lf hl,h⟩;obtain⟨i,a,hi,q,s,c⟩:=o g;refine⟨g,?_⟩;rw[q];by_cases x:k<i
  ·exact absurd h (c k l x hl)
  ·omega
 ·obtain⟨i,a,hi,u,s,_⟩:=o g;have e:i=k:=by rw[u]at q;omega
  subst e;rw[hl]at hi;injection hi with hi;rw[hi];exact s
theorem AhK{p:PgV}{ts:List (List Int)}{fuel:Int}{t:Tr}{c:CpV}{n:Nat}{y:MtV}(hd:c.data=⟨p.params,p.V,p.body,ts,fuel,(Ze p.body t).map (λd=>QV p d ts fuel),QF ((Ze p.body t).map λd=>QV p d ts fuel)⟩)(h:c.mts[n]? =some y):y.m.d∈Ze p.body t/\y.m=QV p y.m.d ts fuel:=by
 have e:c.mts.map MtV.m=(Ze p.body t).map (λd=>QV p d ts fuel):=congrArg Cd.muts hd;have i:y.m∈c.mts.map MtV.m:=Nb (Lf h);rw[e]at i;obtain⟨d,j,g⟩:=LK.1 i;have k:y.m.d=d:=by rw[<-g];exact Yg
 rw[k];exact⟨j,g.symm⟩
theorem Ak2{W:World}{a:Addr}{y:MtV}(h:∀j u,y.cells[j]? =some u->W.cell? (a.add j)=some u):∀j u,([.slice y.A y.m.d.path.length y.cap,.int .i64 y.m.d.op,.int .i64 y.m.d.n]:List Value)[j]? =some u->W.cell? (a.add j)=some u:=λj u hj=>h j u (by
 match j,hj with
 |0,hj|1,hj|2,hj=>exact hj
 |j+3,hj=>simp at hj)
def bodyR:List Nd:=[⟨20,1⟩,⟨25,0⟩,⟨1,1⟩]
def Yq:Tr:=.node ⟨20,1⟩ [.node ⟨25,0⟩ [.node ⟨1,1⟩ []]]
def pR (g:Nat):PgV:=⟨0,none,0,[],some ⟨g,0,none⟩,3,bodyR⟩
theorem AlA{x:Nd}(h:Qv x=0):(Tr.node x []).fits:=.mk _ _ (by rw[h];rfl) (λk hk=>by simp at hk)
theorem AkH{x:Nd}{k:Tr}(h:Qv x=1)(hk:k.fits):(Tr.node x [k]).fits:=.mk _ _ (by rw[h];rfl) (λj hj=>by rw[Lv.1 hj];exact hk)
theorem Aie (g:Nat):Good (pR g) Yq:=⟨⟨AkH rfl (AkH rfl (AlA rfl)),[],by rfl⟩,by rfl,by show Xt 0 [];decide,rfl,by show ofT [] Yq=2;decide+kernel⟩
theorem Ade (g:Nat):Fine (pR g) Yq:=⟨Aie g,by simp[pR,bodyR],by show ∀x∈bodyR,¬Qv x<0;decide,by decide+kernel⟩
theorem AiR{p:PgV}{t:Tr}{v k n:Int}{s:Ms}(w:World)(h1:p.params=0)(h2:p.V=[]){b:List Nd}(h3:p.body=b)(hb:∀x∈b,InI x.tag/\InI x.n)(hl:b.length<=9)(hg:Good p t)(he:evG 10 (.one t) (Zk [] [] 9)=(v,s))(ho:(s.stopped 3 0).out=some (k,n)):(rnZ p 9 []).kind=k/\(rnZ p 9 []).value=n:=by
 obtain⟨W,c,d,e⟩:=AkF (params:=0) (V:=[]) (body:=b) w (by unfold InI;omega) (by simp) hb (by unfold maxLen;simp) (by unfold maxLen;omega);rw[XZ (q:=Ae6 0 [] b c d) h1 h2 h3];have h:=Akn e (args:=[]) (fuel:=9) (by simp) (by rw[JU ((Ji (q:=Ae6 0 [] b c d) h1 h2 h3).1 hg)];rfl) ((Ji (q:=Ae6 0 [] b c d) h1 h2 h3).1 hg) he;unfold rnZ;rw[h,ho];exact⟨rfl,rfl⟩
theorem Ajo:Ze bodyR Yq=[⟨[0],5,0⟩,⟨[0],7,0⟩,⟨[0,0],4, -1⟩,⟨[0,0],4,0⟩,⟨[0,0],4,2⟩]:=by kernel_rfl
theorem Af1{p:PgV}{d:Dl}{k n:Int}(a:(rnZ p 9 []).kind=0/\(rnZ p 9 []).value=1)(b:(rnZ (JS p d) 9 []).kind=k/\(rnZ (JS p d) 9 []).value=n)(h:Q2 ⟨0,1,[]⟩ ⟨k,n,[]⟩=1):(QV p d [[]] 9).verdict=1:=by
 unfold QV
 have e:=ES (f:=rnZ p 9) (g:=rnZ (JS p d) 9) (d:=d) (pre:=[]) (rest:=[]) (x:=[]) (by simp[Zs]) (by
  unfold Q2 at h|-
  rw[a.1,a.2,b.1,b.2]
  exact h)
 rw[Lm]at e;rw[e]
theorem AlC (g:Nat)(w:World):∀d∈Ze bodyR Yq,(QV (pR g) d [[]] 9).verdict=1:=by
 intro d i;obtain⟨q,k,l,_,_,_,_,j⟩:=(Aie g).change i;have c:=Ea (Ade g) l;have e:=j (JS (pR g) d) rfl rfl c;have h:=AiR (p:=pR g) (b:=bodyR) w rfl rfl rfl (by simp[bodyR,InI]) (by simp[bodyR]) (Aie g) (v:=0) (s:=⟨[],[],6,3,[],some (0,1)⟩) (by kernel_rfl) rfl;rw[Ajo]at i;simp only[Ls,Lw,or_false]at i;rcases i with rfl|rfl|rfl|rfl|rfl
 all_goals
  first
  | (obtain⟨rfl,rfl⟩:=Prod.mk.inj (Option.some.inj l)
     first
     |exact Af1 h (AiR w rfl rfl (b:=[⟨20,1⟩,⟨26,0⟩]) c (by simp[InI]) (by simp) e (v:=0) (s:=⟨[],[],7,2,[],none⟩) (by kernel_rfl) rfl) (by decide)
     |exact Af1 h (AiR w rfl rfl (b:=[⟨20,1⟩,⟨25,0⟩,⟨1,0⟩]) c (by simp[InI]) (by simp) e (v:=0) (s:=⟨[],[],6,3,[],some (0,0)⟩) (by kernel_rfl) rfl) (by decide)
     |exact Af1 h (AiR w rfl rfl (b:=[⟨20,1⟩,⟨25,0⟩,⟨1, -1⟩]) c (by simp[InI]) (by simp) e (v:=0) (s:=⟨[],[],6,3,[],some (0, -1)⟩) (by kernel_rfl) rfl) (by decide)
     |exact Af1 h (AiR w rfl rfl (b:=[⟨20,1⟩,⟨25,0⟩,⟨1,2⟩]) c (by simp[InI]) (by simp) e (v:=0) (s:=⟨[],[],6,3,[],some (0,2)⟩) (by kernel_rfl) rfl) (by decide))
theorem Aln{g:Nat}{c:CpV}{v ts f pr b}(w:World)(h:c.data=⟨pr,v,b,ts,f,(Ze bodyR Yq).map (λd=>QV (pR g) d [[]] 9),QF ((Ze bodyR Yq).map λd=>QV (pR g) d [[]] 9)⟩):c.mts.length=5/\c.sc=⟨0,5,0⟩:=by
 have o:c.mts.map MtV.m=_:=congrArg Cd.muts h;have p:c.sc=_:=congrArg Cd.sc h;have k:=congrArg List.length o;rw[Lu,Lu,Ajo]at k;refine⟨k,p.trans ?_⟩
 have j:∀m∈(Ze bodyR Yq).map (λd=>QV (pR g) d [[]] 9),m.verdict=1:=λm i=>by
  obtain⟨d,q,rfl⟩:=LK.1 i;exact AlC g w d q
 have n:((Ze bodyR Yq).map (λd=>QV (pR g) d [[]] 9)).length=5:=by rw[Lu,Ajo];rfl
 generalize (Ze bodyR Yq).map (λd=>QV (pR g) d [[]] 9)=l at j n
 have e:∀v:Int,ZM l v=if v=1 then 5 else 0:=λv=>by
  unfold ZM;split
  ·rename_i h;subst h;rw[List.filter_eq_self.2 λm i=>by rw[j m i];rfl,n];rfl
  ·rename_i h;rw[List.filter_eq_nil_iff.2 λm i=>by rw[j m i];simpa using λe=>h e.symm];rfl
 unfold QF;rw[e,e,e];rfl
section
variable {w:World} (A B C D E F G H I:World->Prop) [sA:St A] [sB:St B] [sC:St C] [sD:St D] [sE:St E] [sF:St F] [sG:St G] [sH:St H] [sI:St I]
theorem Al0 (a:A w):∃S:World->Prop,St S/\Hid (S w)/\Hid (∀W,S W->A W):=⟨A,sA,a,λ_ h=>h⟩
theorem EJ (a:A w)(b:B w):∃S:World->Prop,St S/\Hid (S w)/\Hid (∀W,S W->A W)/\Hid (∀W,S W->B W):=⟨λW=>A W/\B W,inferInstance,⟨a,b⟩,λ_ h=>h.1,λ_ h=>h.2⟩
theorem AjN (a:A w)(b:B w)(c:C w):∃S:World->Prop,St S/\Hid (S w)/\Hid (∀W,S W->A W)/\Hid (∀W,S W->B W)/\Hid (∀W,S W->C W):=⟨λW=>A W/\B W/\C W,inferInstance,⟨a,b,c⟩,λ_ h=>h.1,λ_ h=>h.2.1,λ_ h=>h.2.2⟩
theorem Al1 (a:A w)(b:B w)(c:C w)(d:D w):∃S:World->Prop,St S/\Hid (S w)/\Hid (∀W,S W->A W)/\Hid (∀W,S W->B W)/\Hid (∀W,S W->C W)/\Hid (∀W,S W->D W):=⟨λW=>A W/\B W/\C W/\D W,inferInstance,⟨a,b,c,d⟩,λ_ h=>h.1,λ_ h=>h.2.1,λ_ h=>h.2.2.1,λ_ h=>h.2.2.2⟩
theorem exT{A:World->Prop}[sA:St A](h:A w):∃T:World->Prop,Hid (∀W,T W->A W)/\Hid (∀W,T W->w.heap.size<=W.heap.size)/\Hid (∀W W',T W->Below w.heap.size W W'->T W')/\T w:=⟨λW=>Below w.heap.size w W,λ_ b=>sA.go h b,λ_ b=>b.size,λ_ _ a b=>a.trans b,Below.refl _ _⟩
end
end Go.Proofs.YtkoikjnlpifbjaaGreat
