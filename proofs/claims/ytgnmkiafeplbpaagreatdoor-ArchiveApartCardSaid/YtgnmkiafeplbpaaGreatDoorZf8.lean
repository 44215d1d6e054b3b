/- Lemmas for ArAll. -/
import Derived.Test.YtgnmkiafeplbpaaGreatDoorZf1
set_option linter.unusedVariables false
set_option linter.unusedSimpArgs false
set_option maxRecDepth 100000
set_option maxHeartbeats 16000000
namespace Go.Proofs.YtgnmkiafeplbpaaGreatDoor
open Go.RowKit Go.Deep
def Aae{α:Type}(P:Program)(g:Nat)(lb:Array Value)(encs:α->Array Value)(own:Nat->Prop)(Kp:Nat->World->World->Prop)(Px:List α->α->World->Prop)(S Sp:List α->Prop)(N:Nat)(st:Prop)(w:World):Prop:=
 ∀(l:Nat) (J Jx:List α->World->Prop) (W:World),(w.heap.size<=l/\l<W.heap.size)->w.grownBy W none->(st\/∀pre W',¬Jx pre W')->Aab own W.heap.size J->Aab own W.heap.size Jx->
  (∀pre x W1,J pre W1->Px pre x W1->pre.length<N->YieldAt Fence.wide 0 P l (encs x) W1 λe W'=>
   (e=.returned (.bool true)/\J (pre++[x]) W'/\Kp l W1 W')\/(e=.returned (.bool false)/\Jx (pre++[x]) W'/\Kp l W1 W'))->
  J [] W->
  CallsIn Fence.wide 0 P g (#[.func (.yield l) #[] #[]]++lb) W λe W'=>(∃v,e=.returned v)/\((∃xs,S xs/\J xs W')\/(∃pre,Sp pre/\Jx pre W'))
def AjT{α:Type}(B:Nat)(Kp:World->World->Prop)(I:List α->World->Prop)(Ix:Code->List α->World->Prop)(xs:List α)(W:World):Exit->Act->World->Prop
 | .normal,_,W'=>KeepsFrom B W W'/\Kp W W'/\I xs W'
 | .ret,_,W'=>KeepsFrom B W W'/\Kp W W'/\Ix .ret xs W'
 | .exit id,_,W'=>KeepsFrom B W W'/\Kp W W'/\Ix (.exit id) xs W'
 | .goto t,_,W'=>KeepsFrom B W W'/\Kp W W'/\Ix (.goto t) xs W'
 | .panic _,_,_=>False
 | .outgrown,_,_=>False
section
variable {P:Program}
theorem YU{α:Type}{g:Operand}{ps:Array Tmp}{assign body:Code}{Q:Exit->Act->World->Prop}{a:Act}{w:World}
 {gf:Nat} {lb:Array Value} (hg:a.eval g=.func (.func gf) #[] lb) (eg:∀args w,(callFunc gf args).run P w=.ok (.enter gf args) w)
 {encs:α->Array Value} {own:Nat->Prop} {Kp:Nat->World->World->Prop} {Px:List α->α->World->Prop} {S Sp:List α->Prop} {N:Nat} {st:Prop} {w0:World} (hseq:Aae P gf lb encs own Kp Px S Sp N st w0)
 (hown:∀r,own r->r<w.heap.size)
 (hKt:∀{A B C:World},Kp (w.heap.size+1) A B->Kp (w.heap.size+1) B C->Kp (w.heap.size+1) A C) (hKb:∀(W:World) (o o':Obj),W.heap[w.heap.size+1]? =some o->o.isCells=false->Kp (w.heap.size+1) W (W.putObj (w.heap.size+1) o')) (hb0:w0.grownBy w none) (hps:∀x,(encs x).size=ps.size)
 (I:List α->World->Prop) (Ix:Code->List α->World->Prop) (hst:st\/∀c pre W,¬Ix c pre W) (hI:Aab own w.heap.size I) (hIx:∀c,Aab own w.heap.size (Ix c)) (h0:I [] w) (Ax:List α->α->Act->World->Prop) (hAx:∀pre x a',Aab own w.heap.size (λ(_:Unit) W=>Ax pre x a' W))
 (hassign:∀(l:Nat) (pre:List α) (x:α) (W:World) (K:Act->World->Prop),I pre W->Px pre x W->(∀a' W',KeepsFrom w.heap.size W W'->Kp (w.heap.size+1) W W'->I pre W'->Ax pre x a' W'->K a' W')->
  assign.wpIn (Fence.wide.inRound l) 0 P (Exit.then K (λ_ _ _=>False)) { tmps:=(ps.zip (encs x)).foldl (λt (p,v)=>t.setIfInBounds p v) a.tmps,defers:=[] } W)
 (hbody:∀(l:Nat) (pre:List α) (x:α) (a':Act) (W:World),l=w.heap.size+1->(∃r,W.heap[l]? =some (.loop r))->I pre W->Ax pre x a' W->pre.length<N->body.wpIn (Fence.wide.inRound l) 0 P (AjT w.heap.size (Kp (w.heap.size+1)) I Ix (pre++[x]) W) a' W)
 (hdone:∀(D:Nat) (xs:List α) (W:World),w.heap.size<=D->S xs->I xs W->W.heap[D]? =some (.deferred (some []))->Q .normal { a with defers:={ target:=.collected D,args:=#[] }::a.defers } W)
 (hstop:∀(D:Nat) (c:Code) (pre:List α) (W:World),w.heap.size<=D->Sp pre->Ix c pre W->W.heap[D]? =some (.deferred (some []))->c.wpIn Fence.wide 0 P Q { a with defers:={ target:=.collected D,args:=#[] }::a.defers } W):
 (Code.rangeFunc g ps assign body).wpIn Fence.wide 0 P Q a w:=by
 refine wpIn_rangeFunc ?_;intro fn av;obtain⟨d,j⟩:∃d:LoopState->Option Code->Loop,d=λst pe=>{ state:=st,pending:=pe,fn,tmps:=a.tmps,params:=ps,assign,body,defers:=w.heap.size }:=⟨_,rfl⟩;obtain⟨W1,af⟩:∃W1,(w.alloc (.deferred (some []))).alloc (.loop (d .ready none))=W1:=⟨_,rfl⟩
 have aq:W1.heap[w.heap.size+1]? =some (.loop (d .ready none)):=by
  rw[<-af];have:=World.alloc_heap_new (w.alloc (.deferred (some []))) (.loop (d .ready none));rwa[World.size_alloc]at this
 have ap:W1.heap[w.heap.size]? =some (.deferred (some [])):=by
  rw[<-af];exact(Below.heap_alloc _ _ _ (by simp)).trans (World.alloc_heap_new w _)
 have aa:∀{s:List α} {W:World} {l:Nat} {o:Obj} (o':Obj),I s W->w.heap.size<=l->W.heap[l]? =some o->o.isCells=false->I s (W.putObj l o'):=
  λo' hs hB u ho=>hI _ _ _ (some _) hs (grownBy_putObj' _ _ o') (λr e=>by cases e;exact .inr ⟨hB,_,u,ho⟩)
 have m:∀{c:Code} {s:List α} {W:World} {l:Nat} {o:Obj} (o':Obj),Ix c s W->w.heap.size<=l->W.heap[l]? =some o->o.isCells=false->Ix c s (W.putObj l o'):=
  λo' hs hB u ho=>hIx _ _ _ _ (some _) hs (grownBy_putObj' _ _ o') (λr e=>by cases e;exact .inr ⟨hB,_,u,ho⟩)
 have ao:I [] W1:=by
  rw[<-af];exact hI _ _ _ none (hI _ _ _ none h0 (World.grownBy_alloc _ _ _) (λr e=>by cases e)) (World.grownBy_alloc _ _ _) (λr e=>by cases e)
 have aw:w0.grownBy W1 none:=by
  rw[<-af]
  exact⟨hb0.os,hb0.tape,hb0.output,Lj hb0.size (by simp;omega),λk hk _=>by
   have:=hb0.size
   rw[Below.heap_alloc _ _ _ (by simp;omega),Below.heap_alloc _ _ _ (by omega)];exact hb0.block k hk (by simp)⟩
 have s1:W1.heap.size=w.heap.size+2:=by rw[<-af];simp
 refine⟨w.heap.size+1,[{ target:=.collected w.heap.size,args:=#[] }],W1,{ target:=.fn (.func gf) lb,args:=#[.func (.yield (w.heap.size+1)) #[] #[]] },W1,gf,
  #[.func (.yield (w.heap.size+1)) #[] #[]]++lb,W1,?_,?_,?_,?_,(λh=>by cases h),?_⟩
 ·rw[<-af,j];exact run_enterLoop_outer _ _ _ _ _
 ·simp only[resolve,hg];simp[go_sem]
 ·intro f' _;trivial
 ·simp[invoke,go_sem,eg]
 ·have an:∀{A B:World} {row:Option Nat},(∀r,row=some r->own r\/(W1.heap.size<=r/\∃o:Obj,A.heap[r]? =some o/\o.isCells=false))->(∀r,row=some r->own r\/(w.heap.size<=r/\∃o:Obj,A.heap[r]? =some o/\o.isCells=false)):=
    λz r e=>by
     rcases z r e with h|⟨hB,h⟩
     ·exact .inl h
     ·exact .inr ⟨by omega,h⟩
  have ah:∀{A B:World} {row:Option Nat} {k:Nat} {o:Obj},A.grownBy B row->(∀r,row=some r->own r\/(W1.heap.size<=r/\∃o:Obj,A.heap[r]? =some o/\o.isCells=false))->w.heap.size<=k->k<W1.heap.size->A.heap[k]? =some o->B.heap[k]? =some o:=
   λy z h1 h2 hk=>(y.block _ (Lt.1 hk).1 (λe=>by
    rcases z _ e.symm with h|⟨h,_⟩
    ·have:=hown _ h;omega
    ·omega)).trans hk
  refine(hseq (w.heap.size+1)
   (λpre W=>I pre W/\W.heap[w.heap.size+1]? =some (.loop (d .ready none))/\W.heap[w.heap.size]? =some (.deferred (some [])))
   (λpre W=>∃c,Ix c pre W/\W.heap[w.heap.size+1]? =some (.loop (d .done (some c)))/\W.heap[w.heap.size]? =some (.deferred (some [])))
   W1 ⟨by have:=hb0.size;omega,by omega⟩ aw (hst.imp id λh pre W'=>by rintro⟨c,hc,_⟩;exact h c pre W' hc)
   (λs A B row hs y z=>⟨hI s A B row hs.1 y (an (B:=B) z),ah y z (by omega) (by omega) hs.2.1,ah y z (by omega) (by omega) hs.2.2⟩)
   (λs A B row hs y z=>by
    obtain⟨c,hc,u,hk⟩:=hs
    exact⟨c,hIx c s A B row hc y (an (B:=B) z),ah y z (by omega) (by omega) u,ah y z (by omega) (by omega) hk⟩)
   ?_ ⟨ao,aq,ap⟩).mono ?_
  ·rintro pre x W ⟨hi,u,hk⟩ az al;have am:w.heap.size+1<W.heap.size:=(Lt.1 u).1;have hy:=run_yield (P:=P) (args:=encs x) u (by rw[j];exact hps x);rw[j]at hy;refine⟨fn,_,assign,body,hy,roundIn_of_wpIn av (hassign _ pre x W _ hi az ?_)⟩;clear hy;intro a' Wa aj ae ax au;replace u:=aj.same _ _ (by omega) u rfl;replace hk:=aj.same _ _ (Nat.le_refl _) hk rfl;replace am:w.heap.size+1<Wa.heap.size:=(Lt.1 u).1;refine⟨_,run_beginRound u (by rw[j]),?_⟩;have ak:(Wa.putObj (w.heap.size+1) (.loop { d .ready none with state:=.busy })).heap[w.heap.size+1]? =some (.loop { d .ready none with state:=.busy }):=World.putObj_heap_same am;have ay:(Wa.putObj (w.heap.size+1) (.loop { d .ready none with state:=.busy })).heap[w.heap.size]? =some (.deferred (some [])):=(World.putObj_heap_other (by omega)).trans hk;have ai:Kp (w.heap.size+1) Wa (Wa.putObj (w.heap.size+1) (.loop { d .ready none with state:=.busy })):=hKb _ _ _ u rfl;refine wpIn_mono (hbody _ pre x a' _ rfl ⟨_,ak⟩ (aa _ ax (by omega) u rfl) (hAx pre x a' () _ _ (some _) au (grownBy_putObj' _ _ _) (λr e=>by cases e;exact .inr ⟨by omega,_,u,rfl⟩)) al) ?_
   have ag:∀(b:Option Code) (W3:World),KeepsFrom w.heap.size (Wa.putObj (w.heap.size+1) (.loop { d .ready none with state:=.busy })) W3->
    (Instr.endRound (w.heap.size+1) b).run P W3=.ok (.bool b.isNone) (W3.putObj (w.heap.size+1) (.loop (d (if b.isNone then .ready else .done) b)))/\
    W3.heap[w.heap.size+1]? =some (.loop { d .ready none with state:=.busy })/\
    (W3.putObj (w.heap.size+1) (.loop (d (if b.isNone then .ready else .done) b))).heap[w.heap.size+1]? =some (.loop (d (if b.isNone then .ready else .done) b))/\
    (W3.putObj (w.heap.size+1) (.loop (d (if b.isNone then .ready else .done) b))).heap[w.heap.size]? =some (.deferred (some [])):=λb W3 q=>by
    have i:=q.same _ _ (by omega) ak rfl;have:=run_endRound (P:=P) b i;rw[j]at this|-;exact⟨this,by rw[j]at i;exact i,World.putObj_heap_same (Lt.1 i).1,(World.putObj_heap_other (by omega)).trans (q.same _ _ (Nat.le_refl _) ay rfl)⟩
   rintro e a3 W3 hp;cases e with
   |normal=>
    obtain⟨q,n,ab⟩:=hp;obtain⟨z,i,ad,ac⟩:=ag none W3 q;exact⟨_,_,z,.inl ⟨rfl,⟨aa _ ab (by omega) i rfl,ad,ac⟩,hKt ae (hKt (hKt ai n) (hKb _ _ _ i rfl))⟩⟩
   |ret=>
    obtain⟨q,n,ab⟩:=hp;obtain⟨z,i,ad,ac⟩:=ag (some .ret) W3 q;exact⟨_,_,z,.inr ⟨rfl,⟨.ret,m _ ab (by omega) i rfl,ad,ac⟩,hKt ae (hKt (hKt ai n) (hKb _ _ _ i rfl))⟩⟩
   |exit id=>
    obtain⟨q,n,ab⟩:=hp;obtain⟨z,i,ad,ac⟩:=ag (some (.exit id)) W3 q;exact⟨_,_,z,.inr ⟨rfl,⟨.exit id,m _ ab (by omega) i rfl,ad,ac⟩,hKt ae (hKt (hKt ai n) (hKb _ _ _ i rfl))⟩⟩
   |goto t=>
    obtain⟨q,n,ab⟩:=hp;obtain⟨z,i,ad,ac⟩:=ag (some (.goto t)) W3 q;exact⟨_,_,z,.inr ⟨rfl,⟨.goto t,m _ ab (by omega) i rfl,ad,ac⟩,hKt ae (hKt (hKt ai n) (hKb _ _ _ i rfl))⟩⟩
   |panic ch=>exact hp.elim
   |outgrown=>exact hp.elim
  ·rintro e W2 ⟨⟨v,rfl⟩,(⟨xs,hS,hi,u,hk⟩|⟨pre,ar,c,hi,u,hk⟩)⟩
   ·exact⟨none,_,by have:=run_endLoop (P:=P) u (by rw[j];simp);rw[j]at this;exact this,hdone _ xs _ (Nat.le_refl _) hS (aa _ hi (by omega) u rfl) ((World.putObj_heap_other (by omega)).trans hk)⟩
   ·exact⟨some c,_,by have:=run_endLoop (P:=P) u (by rw[j];simp);rw[j]at this;exact this,hstop _ c pre _ (Nat.le_refl _) ar (m _ hi (by omega) u rfl) ((World.putObj_heap_other (by omega)).trans hk)⟩
end
end Go.Proofs.YtgnmkiafeplbpaaGreatDoor
