/- Lemmas for RunnerKillsP. -/
import Derived.Test.YtkoikjnlpifbjaaGreatZk1
set_option linter.unusedVariables false
set_option linter.unusedSimpArgs false
set_option maxRecDepth 100000
set_option maxHeartbeats 16000000
namespace Go.Proofs.YtkoikjnlpifbjaaGreat
open Go.RowKit Go.Deep
def Ej{α:Type}(P:Program)(g:Nat)(lb:Array Value)(encs:α->Array Value)(own:Nat->Prop)(Kp:Nat->World->World->Prop)(Px:List α->α->World->Prop)(S Sp:List α->Prop)(N:Nat)(st:Prop)(w:World):Prop:=
 ∀(l:Nat) (J Jx:List α->World->Prop) (W:World),(w.heap.size<=l/\l<W.heap.size)->w.grownBy W none->(st\/∀pre W',¬Jx pre W')->Ei own W.heap.size J->Ei own W.heap.size Jx->
  (∀pre x W1,J pre W1->Px pre x W1->pre.length<N->YieldAt Fence.wide 0 P l (encs x) W1 λe W'=>
   (e=.returned (.bool true)/\J (pre++[x]) W'/\Kp l W1 W')\/(e=.returned (.bool false)/\Jx (pre++[x]) W'/\Kp l W1 W'))->
  J [] W->
  CallsIn Fence.wide 0 P g (#[.func (.yield l) #[] #[]]++lb) W λe W'=>(∃v,e=.returned v)/\((∃xs,S xs/\J xs W')\/(∃pre,Sp pre/\Jx pre W'))
def AiE{α:Type}(B:Nat)(Kp:World->World->Prop)(I:List α->World->Prop)(Ix:Code->List α->World->Prop)(xs:List α)(W:World):Exit->Act->World->Prop
 | .normal,_,W'=>KeepsFrom B W W'/\Kp W W'/\I xs W'
 | .ret,_,W'=>KeepsFrom B W W'/\Kp W W'/\Ix .ret xs W'
 | .exit id,_,W'=>KeepsFrom B W W'/\Kp W W'/\Ix (.exit id) xs W'
 | .goto t,_,W'=>KeepsFrom B W W'/\Kp W W'/\Ix (.goto t) xs W'
 | .panic _,_,_=>False
 | .outgrown,_,_=>False
section
variable {P:Program}
theorem Uo{α:Type}{g:Operand}{ps:Array Tmp}{assign body:Code}{Q:Exit->Act->World->Prop}{a:Act}{w:World}
 {gf:Nat} {lb:Array Value} (hg:a.eval g=.func (.func gf) #[] lb) (eg:∀args w,(callFunc gf args).run P w=.ok (.enter gf args) w)
 {encs:α->Array Value} {own:Nat->Prop} {Kp:Nat->World->World->Prop} {Px:List α->α->World->Prop} {S Sp:List α->Prop} {N:Nat} {st:Prop} {w0:World} (hseq:Ej P gf lb encs own Kp Px S Sp N st w0)
 (hown:∀r,own r->r<w.heap.size)
 (hKt:∀{A B C:World},Kp (w.heap.size+1) A B->Kp (w.heap.size+1) B C->Kp (w.heap.size+1) A C) (hKb:∀(W:World) (o o':Obj),W.heap[w.heap.size+1]? =some o->o.isCells=false->Kp (w.heap.size+1) W (W.putObj (w.heap.size+1) o')) (hb0:w0.grownBy w none) (hps:∀x,(encs x).size=ps.size)
 (I:List α->World->Prop) (Ix:Code->List α->World->Prop) (hst:st\/∀c pre W,¬Ix c pre W) (hI:Ei own w.heap.size I) (hIx:∀c,Ei own w.heap.size (Ix c)) (h0:I [] w) (Ax:List α->α->Act->World->Prop) (hAx:∀pre x a',Ei own w.heap.size (λ(_:Unit) W=>Ax pre x a' W))
 (hassign:∀(l:Nat) (pre:List α) (x:α) (W:World) (K:Act->World->Prop),I pre W->Px pre x W->(∀a' W',KeepsFrom w.heap.size W W'->Kp (w.heap.size+1) W W'->I pre W'->Ax pre x a' W'->K a' W')->
  assign.wpIn (Fence.wide.inRound l) 0 P (Exit.then K (λ_ _ _=>False)) { tmps:=(ps.zip (encs x)).foldl (λt (p,v)=>t.setIfInBounds p v) a.tmps,defers:=[] } W)
 (hbody:∀(l:Nat) (pre:List α) (x:α) (a':Act) (W:World),l=w.heap.size+1->(∃r,W.heap[l]? =some (.loop r))->I pre W->Ax pre x a' W->pre.length<N->body.wpIn (Fence.wide.inRound l) 0 P (AiE w.heap.size (Kp (w.heap.size+1)) I Ix (pre++[x]) W) a' W)
 (hdone:∀(D:Nat) (xs:List α) (W:World),w.heap.size<=D->S xs->I xs W->W.heap[D]? =some (.deferred (some []))->Q .normal { a with defers:={ target:=.collected D,args:=#[] }::a.defers } W)
 (hstop:∀(D:Nat) (c:Code) (pre:List α) (W:World),w.heap.size<=D->Sp pre->Ix c pre W->W.heap[D]? =some (.deferred (some []))->c.wpIn Fence.wide 0 P Q { a with defers:={ target:=.collected D,args:=#[] }::a.defers } W):
 (Code.rangeFunc g ps assign body).wpIn Fence.wide 0 P Q a w:=by
 refine wpIn_rangeFunc ?_;intro fn au;obtain⟨i,m⟩:∃i:LoopState->Option Code->Loop,i=λst pe=>{ state:=st,pending:=pe,fn,tmps:=a.tmps,params:=ps,assign,body,defers:=w.heap.size }:=⟨_,rfl⟩;obtain⟨W1,af⟩:∃W1,(w.alloc (.deferred (some []))).alloc (.loop (i .ready none))=W1:=⟨_,rfl⟩
 have ap:W1.heap[w.heap.size+1]? =some (.loop (i .ready none)):=by
  rw[<-af];have:=World.alloc_heap_new (w.alloc (.deferred (some []))) (.loop (i .ready none));rwa[World.size_alloc]at this
 have ao:W1.heap[w.heap.size]? =some (.deferred (some [])):=by
  rw[<-af];exact(Below.heap_alloc _ _ _ (by simp)).trans (World.alloc_heap_new w _)
 have aa:∀{s:List α} {W:World} {l:Nat} {o:Obj} (o':Obj),I s W->w.heap.size<=l->W.heap[l]? =some o->o.isCells=false->I s (W.putObj l o'):=
  λo' hs hB y ho=>hI _ _ _ (some _) hs (grownBy_putObj' _ _ o') (λr e=>by cases e;exact .inr ⟨hB,_,y,ho⟩)
 have n:∀{c:Code} {s:List α} {W:World} {l:Nat} {o:Obj} (o':Obj),Ix c s W->w.heap.size<=l->W.heap[l]? =some o->o.isCells=false->Ix c s (W.putObj l o'):=
  λo' hs hB y ho=>hIx _ _ _ _ (some _) hs (grownBy_putObj' _ _ o') (λr e=>by cases e;exact .inr ⟨hB,_,y,ho⟩)
 have an:I [] W1:=by
  rw[<-af];exact hI _ _ _ none (hI _ _ _ none h0 (World.grownBy_alloc _ _ _) (λr e=>by cases e)) (World.grownBy_alloc _ _ _) (λr e=>by cases e)
 have av:w0.grownBy W1 none:=by
  rw[<-af]
  exact⟨hb0.os,hb0.tape,hb0.output,Ld hb0.size (by simp;omega),λk hk _=>by
   have:=hb0.size
   rw[Below.heap_alloc _ _ _ (by simp;omega),Below.heap_alloc _ _ _ (by omega)];exact hb0.block k hk (by simp)⟩
 have s1:W1.heap.size=w.heap.size+2:=by rw[<-af];simp
 refine⟨w.heap.size+1,[{ target:=.collected w.heap.size,args:=#[] }],W1,{ target:=.fn (.func gf) lb,args:=#[.func (.yield (w.heap.size+1)) #[] #[]] },W1,gf,
  #[.func (.yield (w.heap.size+1)) #[] #[]]++lb,W1,?_,?_,?_,?_,(λh=>by cases h),?_⟩
 ·rw[<-af,m];exact run_enterLoop_outer _ _ _ _ _
 ·simp only[resolve,hg];simp[go_sem]
 ·intro f' _;trivial
 ·simp[invoke,go_sem,eg]
 ·have am:∀{A B:World} {row:Option Nat},(∀r,row=some r->own r\/(W1.heap.size<=r/\∃o:Obj,A.heap[r]? =some o/\o.isCells=false))->(∀r,row=some r->own r\/(w.heap.size<=r/\∃o:Obj,A.heap[r]? =some o/\o.isCells=false)):=
    λhr r e=>by
     rcases hr r e with h|⟨hB,h⟩
     ·exact .inl h
     ·exact .inr ⟨by omega,h⟩
  have ag:∀{A B:World} {row:Option Nat} {k:Nat} {o:Obj},A.grownBy B row->(∀r,row=some r->own r\/(W1.heap.size<=r/\∃o:Obj,A.heap[r]? =some o/\o.isCells=false))->w.heap.size<=k->k<W1.heap.size->A.heap[k]? =some o->B.heap[k]? =some o:=
   λz hr h1 h2 hk=>(z.block _ (Lr.1 hk).1 (λe=>by
    rcases hr _ e.symm with h|⟨h,_⟩
    ·have:=hown _ h;omega
    ·omega)).trans hk
  refine(hseq (w.heap.size+1)
   (λpre W=>I pre W/\W.heap[w.heap.size+1]? =some (.loop (i .ready none))/\W.heap[w.heap.size]? =some (.deferred (some [])))
   (λpre W=>∃c,Ix c pre W/\W.heap[w.heap.size+1]? =some (.loop (i .done (some c)))/\W.heap[w.heap.size]? =some (.deferred (some [])))
   W1 ⟨by have:=hb0.size;omega,by omega⟩ av (hst.imp id λh pre W'=>by rintro⟨c,hc,_⟩;exact h c pre W' hc)
   (λs A B row hs z hr=>⟨hI s A B row hs.1 z (am (B:=B) hr),ag z hr (by omega) (by omega) hs.2.1,ag z hr (by omega) (by omega) hs.2.2⟩)
   (λs A B row hs z hr=>by
    obtain⟨c,hc,y,hk⟩:=hs
    exact⟨c,hIx c s A B row hc z (am (B:=B) hr),ag z hr (by omega) (by omega) y,ag z hr (by omega) (by omega) hk⟩)
   ?_ ⟨an,ap,ao⟩).mono ?_
  ·rintro pre x W ⟨hi,y,hk⟩ ay ak;have al:w.heap.size+1<W.heap.size:=(Lr.1 y).1;have hy:=run_yield (P:=P) (args:=encs x) y (by rw[m];exact hps x);rw[m]at hy;refine⟨fn,_,assign,body,hy,roundIn_of_wpIn au (hassign _ pre x W _ hi ay ?_)⟩;clear hy;intro a' Wa ai ae aw ar;replace y:=ai.same _ _ (by omega) y rfl;replace hk:=ai.same _ _ (Nat.le_refl _) hk rfl;replace al:w.heap.size+1<Wa.heap.size:=(Lr.1 y).1;refine⟨_,run_beginRound y (by rw[m]),?_⟩;have aj:(Wa.putObj (w.heap.size+1) (.loop { i .ready none with state:=.busy })).heap[w.heap.size+1]? =some (.loop { i .ready none with state:=.busy }):=World.putObj_heap_same al;have ax:(Wa.putObj (w.heap.size+1) (.loop { i .ready none with state:=.busy })).heap[w.heap.size]? =some (.deferred (some [])):=(World.putObj_heap_other (by omega)).trans hk;have ah:Kp (w.heap.size+1) Wa (Wa.putObj (w.heap.size+1) (.loop { i .ready none with state:=.busy })):=hKb _ _ _ y rfl;refine wpIn_mono (hbody _ pre x a' _ rfl ⟨_,aj⟩ (aa _ aw (by omega) y rfl) (hAx pre x a' () _ _ (some _) ar (grownBy_putObj' _ _ _) (λr e=>by cases e;exact .inr ⟨by omega,_,y,rfl⟩)) ak) ?_
   have fin:∀(d:Option Code) (W3:World),KeepsFrom w.heap.size (Wa.putObj (w.heap.size+1) (.loop { i .ready none with state:=.busy })) W3->
    (Instr.endRound (w.heap.size+1) d).run P W3=.ok (.bool d.isNone) (W3.putObj (w.heap.size+1) (.loop (i (if d.isNone then .ready else .done) d)))/\
    W3.heap[w.heap.size+1]? =some (.loop { i .ready none with state:=.busy })/\
    (W3.putObj (w.heap.size+1) (.loop (i (if d.isNone then .ready else .done) d))).heap[w.heap.size+1]? =some (.loop (i (if d.isNone then .ready else .done) d))/\
    (W3.putObj (w.heap.size+1) (.loop (i (if d.isNone then .ready else .done) d))).heap[w.heap.size]? =some (.deferred (some [])):=λd W3 u=>by
    have j:=u.same _ _ (by omega) aj rfl;have:=run_endRound (P:=P) d j;rw[m]at this|-;exact⟨this,by rw[m]at j;exact j,World.putObj_heap_same (Lr.1 j).1,(World.putObj_heap_other (by omega)).trans (u.same _ _ (Nat.le_refl _) ax rfl)⟩
   rintro e a3 W3 hp;cases e with
   |normal=>
    obtain⟨u,q,ab⟩:=hp;obtain⟨hr,j,ad,ac⟩:=fin none W3 u;exact⟨_,_,hr,.inl ⟨rfl,⟨aa _ ab (by omega) j rfl,ad,ac⟩,hKt ae (hKt (hKt ah q) (hKb _ _ _ j rfl))⟩⟩
   |ret=>
    obtain⟨u,q,ab⟩:=hp;obtain⟨hr,j,ad,ac⟩:=fin (some .ret) W3 u;exact⟨_,_,hr,.inr ⟨rfl,⟨.ret,n _ ab (by omega) j rfl,ad,ac⟩,hKt ae (hKt (hKt ah q) (hKb _ _ _ j rfl))⟩⟩
   |exit id=>
    obtain⟨u,q,ab⟩:=hp;obtain⟨hr,j,ad,ac⟩:=fin (some (.exit id)) W3 u;exact⟨_,_,hr,.inr ⟨rfl,⟨.exit id,n _ ab (by omega) j rfl,ad,ac⟩,hKt ae (hKt (hKt ah q) (hKb _ _ _ j rfl))⟩⟩
   |goto t=>
    obtain⟨u,q,ab⟩:=hp;obtain⟨hr,j,ad,ac⟩:=fin (some (.goto t)) W3 u;exact⟨_,_,hr,.inr ⟨rfl,⟨.goto t,n _ ab (by omega) j rfl,ad,ac⟩,hKt ae (hKt (hKt ah q) (hKb _ _ _ j rfl))⟩⟩
   |panic ch=>exact hp.elim
   |outgrown=>exact hp.elim
  ·rintro e W2 ⟨⟨v,rfl⟩,(⟨xs,hS,hi,y,hk⟩|⟨pre,aq,c,hi,y,hk⟩)⟩
   ·exact⟨none,_,by have:=run_endLoop (P:=P) y (by rw[m];simp);rw[m]at this;exact this,hdone _ xs _ (Nat.le_refl _) hS (aa _ hi (by omega) y rfl) ((World.putObj_heap_other (by omega)).trans hk)⟩
   ·exact⟨some c,_,by have:=run_endLoop (P:=P) y (by rw[m];simp);rw[m]at this;exact this,hstop _ c pre _ (Nat.le_refl _) aq (n _ hi (by omega) y rfl) ((World.putObj_heap_other (by omega)).trans hk)⟩
end
end Go.Proofs.YtkoikjnlpifbjaaGreat
