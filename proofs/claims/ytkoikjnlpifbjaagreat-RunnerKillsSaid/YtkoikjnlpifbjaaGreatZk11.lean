/- Lemmas for RunnerKillsP. -/
import Derived.Test.YtkoikjnlpifbjaaGreatZk10
import Derived.Test.YtkoikjnlpifbjaaGreatZk1
import Derived.Test.YtkoikjnlpifbjaaGreatZk3
import Derived.Test.YtkoikjnlpifbjaaGreatZk8
import Derived.OrdersIn
import Derived.RangeFuncCalls
set_option linter.unusedVariables false
set_option linter.unusedSimpArgs false
set_option maxRecDepth 100000
set_option maxHeartbeats 16000000
namespace Go.Proofs.YtkoikjnlpifbjaaGreat
open Go.RowKit Go.Deep
attribute [local go_sem] Oper.semAt_some
theorem Aab{P:Program}{fn:Func}{p p':Tmp}{ty ty':TypeId}(h:fn.results=#[.cell p ty,.cell p' ty'])(tmps:Array Value)(w:World)(a a':Addr)(v v':Value)(hp:tmps.getD p undef=.pointer (some a))(hp':tmps.getD p' undef=.pointer (some a'))
 (hv:(loadVar ty a).run P w=.ok v w) (hv':(loadVar ty' a').run P w=.ok v' w):(results fn tmps).run P w=.ok (.tuple #[v,v']) w:=by
 have c:tmps[p]?.getD undef=.pointer (some a):=by simpa using hp
 have d:tmps[p']?.getD undef=.pointer (some a'):=by simpa using hp'
 simp[results,h,c,d,asAddr,hv,hv']
theorem Row.abide{W W':World}{g:Nat}{t:TypeId}{cs:Array Value}{row:Option Nat}{p:Nat->Prop}(h:Row W g t cs)(hg:W.grownBy W' row)(hr:∀r,row=some r->False\/(p r/\∃o:Obj,W.heap[r]? =some o/\o.isCells=false)):Row W' g t cs:=
 h.grown hg (λe=>by
  rcases hr g e with h'|⟨_,o,ho,hc⟩
  ·exact h'
  ·rw[h]at ho;cases ho;cases hc)
structure PathR (π:List Int)(w w':World)(e:Ending):Prop where
 ex:∃A cap,e=.returned (.tuple #[.slice A π.length cap,.bool true])/\Rd w' A (Qi π)/\(A=none->π=[])/\Below w.heap.size w w'/\∀ad,A=some ad->w.heap.size<=ad.block
theorem KpX.only{X:Nat->Prop}{A B:World}{g:Nat}(o:Only g A B)(hg:X g):KpX X A B:=⟨λk p hx hp=>by rw[o.block k (λe=>hx (e▸hg))];exact hp,LD o.size.symm⟩
theorem Rd.only{A B:World}{ad:Option Addr}{xs:List Value}(h:Rd A ad xs){g:Nat}(o:Only g A B)(hx:xs≠[]->∀a,ad=some a->a.block≠g):Rd B ad xs:=
 (KpX.only (X:=λk=>k=g) o rfl).rd h hx
theorem Aaa{A:World}{ad:Option Addr}{l:List Int}(h:Rd A ad (Qi l)){g:Nat}{t:TypeId}{v:Value}(hr:Row A g t #[v])(hv:∀n,v≠.int .i64 n):Qi l≠[]->∀a,ad=some a->a.block≠g:=λhne a e hb=>by
 cases l with
 |nil=>exact hne rfl
 |cons x l=>
  obtain⟨m,d,c⟩:=h 0 (.int .i64 x) rfl;rw[e]at d;injection d with d;subst d;have k:a.add 0=a:=by unfold Addr.add;rw[if_pos rfl]
  rw[k]at c;have j:A.heap[a.block]? =some (.cells #[v] t (0,0)):=by rw[hb];exact hr
  unfold World.cell? at c;rw[j]at c;simp only at c;split at c
  ·cases c
  ·by_cases i:a.off=0
   ·rw[i]at c;exact hv x (by simpa using c)
   ·rw[Nz (by simp;omega)]at c;cases c
theorem Afm (A:Option Addr)(cap:Nat)(l:List Nd)(t:Tr)(q:Nat)(π:List Int)(w:World)(hat:At l 0 t)(hsz:t.size=l.length)(hq:(Q5 [] 0 t)[q]? =some (q,π))(hr:Rd w A (l.flatMap Nd.cells))(hl:l.length<=1000):
 Calls Tryz.prog 152 #[.slice A l.length cap,.int .i64 (q:Int)] w λe w'=>PathR π w w' e:=by
 have He:=Lh (λW h=>JH A cap l (0:Int) W h hl)
 have ar:endZ l 0=(l.length:Int):=by
  have:=hat.endZ;rw[hsz]at this;simpa using this
 rw[ar]at He;have Hr:=Lh hr;have Hl:=Lh hl;have ax:=Lh hat;have az:=Lh hsz;have Hq:=Lh hq;clear hr hl hat hsz hq ar;refine(callsIn_wide (n:=0)).1 ?_;refine callsIn_of_wp_marks Tryz.func152 rfl trivial ?_;simp only[Tryz.ntmps152,Lk,Lc,Lo,Nat.reduceAdd,Nat.reduceSub,Li,Lj,Lp,L5,Lm,Ll];gi_wp2_with fail
 obtain⟨B3,ah⟩:∃B,B=w.heap.size:=⟨_,rfl⟩;obtain⟨w1,af⟩:∃w1,w1=w.alloc (.cells #[.int .i64 (q:Int)] 3):=⟨_,rfl⟩;have r3:Row w1 B3 3 #[.int .i64 (q:Int)]:=by rw[af,ah];exact Row.new _ _ _
 have b1:Below w.heap.size w w1:=by rw[af];exact(Below.refl _ _).alloc (Nat.le_refl _) _
 obtain⟨g,ai⟩:∃B,B=w1.heap.size:=⟨_,rfl⟩;obtain⟨w2,ag⟩:∃w2,w2=w1.alloc (.cells #[.slice none 0 0] 22):=⟨_,rfl⟩;have r4:Row w2 g 22 #[.slice none 0 0]:=by rw[ag,ai];exact Row.new _ _ _
 have b2:Below w1.heap.size w1 w2:=by rw[ag];exact(Below.refl _ _).alloc (Nat.le_refl _) _
 obtain⟨m,ao⟩:∃B,B=w2.heap.size:=⟨_,rfl⟩;obtain⟨w3,ak⟩:∃w3,w3=w2.alloc (.cells #[.bool false] 4):=⟨_,rfl⟩;have r5:Row w3 m 4 #[.bool false]:=by rw[ak,ao];exact Row.new _ _ _
 have b3:Below w2.heap.size w2 w3:=by rw[ak];exact(Below.refl _ _).alloc (Nat.le_refl _) _
 have e4:B3+1=g:=by rw[ai,af,World.size_alloc,ah]
 have e5:g+1=m:=by rw[ao,ag,World.size_alloc,ai]
 rw[<-af, <-ag, <-ak, <-ah,e4,e5];clear e4 e5;have l3:=r3.lt;have l4:=r4.lt;have bb:Below w.heap.size w w3:=b1.trans ((b2.mono b1.size).trans (b3.mono (by have:=b1.size;have:=b2.size;omega)));replace r3:=(r3.below b2 l3).below b3 (by have:=b2.size;omega);replace r4:=r4.below b3 l4;have g3:w.heap.size<=B3:=by omega
 have a5:B3<g:=by omega
 have a6:g<m:=by omega
 clear b1 b2 b3 af ag ak ah ai ao l3 l4;refine⟨trivial,rfl,(callsIn_wide.2 (He.out w3 (Hr.out.go bb))).mono ?_⟩;rintro e w4 ⟨rfl,b4⟩;replace r3:=r3.below b4 r3.lt;replace r4:=r4.below b4 r4.lt;replace r5:=r5.below b4 r5.lt;replace bb:=bb.trans (b4.mono bb.size);clear b4 He;gi_wp2_with fail
 refine⟨trivial,rfl,(callsIn_wide.2 (YH A cap l 0 none 0 [] w4)).mono ?_⟩;rintro e w5 ⟨bl,ba,bo,rfl,rl,ra,ro,gl,ga,go,b5⟩;have l5:=r5.lt;replace r3:=r3.below b5 r3.lt;replace r4:=r4.below b5 r4.lt;replace r5:=r5.below b5 r5.lt;replace bb:=bb.trans (b5.mono bb.size);have hC:PathsC w.heap.size A cap l (λk=>k=g\/k=m) ba bo bl none 0 [] 0 w5:=⟨Hr.out.go bb,λa1 ad e h=>by have:=KY Hr.out a1 e;omega,rl,ra,ro,by omega,by omega,by omega,λj u hj=>by simp[Qi]at hj,λh=>absurd rfl h,λ_=>rfl,λk hk=>by have:=r4.lt;have:=r5.lt;omega,λ_ e=>(nomatch e),bb.size⟩;have ay:=Lh (Afn A cap l Hl.out t.size t 0 [] (Nat.le_refl _) (by have:=az.out;have:=Hl.out;simp;omega) ax.out w.heap.size (λk=>k=g\/k=m) ba bo bl none 0 w5 hC);have Hb:=Lh bb;have s5:=r5.lt;clear hC rl ra ro b5 l5 bb;gi_wp2_with fail
 have aw:Hid ((Row w5 B3 3 #[.int .i64 (q:Int)]/\Row w5 g 22 #[.slice none 0 0]/\Row w5 m 4 #[.bool false])/\Below w.heap.size w w5/\∀x∈([]:List PtX),x.to≠q):=⟨⟨r3,r4,r5⟩,Hb.out,λx hx=>by simp at hx⟩;have sb:=Hb.out.size;clear r3 r4 r5 Hb
 refine Uo (gf:=209) (lb:=#[.pointer (some ⟨ba,0,none⟩),.pointer (some ⟨bo,0,none⟩),.pointer (some ⟨bl,0,none⟩)]) rfl (enters_of Tryz.func209 (by kernel_rfl) rfl) ay.out (λr h=>h.elim)
  (λh k=>h.trans k) (λV o o' ho hc=>⟨λi p hx hp=>by rw[World.putObj_heap_other (λe=>hx (.inr e))];exact hp,by simp⟩) (World.grownBy.refl _ _) (λ_=>rfl)
  (λd V=>(Row V B3 3 #[.int .i64 (q:Int)]/\Row V g 22 #[.slice none 0 0]/\Row V m 4 #[.bool false])/\Below w.heap.size w V/\∀x∈d,x.to≠q)
  (λc d V=>c=.ret/\∃s c',Row V g 22 #[.slice s π.length c']/\Row V m 4 #[.bool true]/\Rd V s (Qi π)/\(s=none->π=[])/\Below w.heap.size w V/\∀ad,s=some ad->w.heap.size<=ad.block) (.inl trivial) ?hI ?hIx aw.out
  (λd x a' V=>a'={ tmps:=#[.slice A l.length cap,.int .i64 (q:Int),undef,.pointer (some ⟨B3,0,none⟩),.pointer (some ⟨g,0,none⟩),.pointer (some ⟨m,0,none⟩),.int .i64 (x.to:Int),.slice x.A x.l.length x.cap,.slice A l.length cap,.int .i64 (l.length:Int),.slice A l.length cap,.int .i64 (l.length:Int),.bool false,.slice A l.length cap,.func (.func 209) #[] #[.pointer (some ⟨ba,0,none⟩),.pointer (some ⟨bo,0,none⟩),.pointer (some ⟨bl,0,none⟩)],.int .i64 (x.to:Int),.slice x.A x.l.length x.cap,undef,undef,undef,undef],defers:=[] }/\PxP w.heap.size (Q5 [] 0 t) d x V) ?hAx ?assign ?body ?done ?stop
 case hI=>
  rintro d V V' row ⟨⟨h1,h2,h3⟩,z,h5⟩ hg hr;refine⟨⟨h1.abide hg hr,h2.abide hg hr,h3.abide hg hr⟩,z.grown hg z.size (λk e=>?_),h5⟩;rcases hr k e with h|⟨h,_⟩
  ·exact h.elim
  ·omega
 case hIx=>
  rintro c d V V' row ⟨h0,s,c',h1,h2,h3,z,h5,h6⟩ hg hr;refine⟨h0,s,c',h1.abide hg hr,h2.abide hg hr,h3.grown hg (λk e=>?_),z,h5.grown hg h5.size (λk e=>?_),h6⟩
  ·rcases hr k e with h|⟨_,h⟩
   ·exact h.elim
   ·exact h
  ·rcases hr k e with h|⟨h,_⟩
   ·exact h.elim
   ·omega
 case hAx=>
  rintro d x a' _ V V' row ⟨h1,⟨h2,z⟩,h3⟩ hg hr;refine⟨h1,⟨⟨h2.rd.grown hg (λi e=>?_),h2.nil,h2.len⟩,z⟩,h3⟩;rcases hr i e with h|⟨h,o⟩
  ·exact h.elim
  ·exact o
 case assign=>
  rintro l3 d x V K hI hP hK;have HK:=Lh hK;have HI:=Lh hI;have HP:=Lh hP;clear hK hI hP;unfold PtX.enc;gi_wp2_with fail
  exact HK.out _ _ (KeepsFrom.refl _ _) (KpX.refl _ _) HI.out ⟨rfl,HP.out⟩
 case body=>
  rintro l3 d x a' V au _ ⟨⟨h3,z,h5⟩,hb,aa⟩ ⟨rfl,⟨aj,a0⟩,a4,ab⟩ am;have hx:(Q5 [] 0 t)[d.length]? =some (x.to,x.l):=by rw[<-ab,Lx (by simp)];simp[PtX.f]
  have aq:=Vl t [] 0 d.length _ hx;simp only at aq;have c3:=h3.cellv (i:=0) (v:=.int .i64 (q:Int)) rfl;by_cases al:x.to=q
  ·have av:d.length=q:=by omega
   have hπ:x.l=π:=by
    rw[av,Hq.out]at hx;injection hx with hx;injection hx with _ hx;exact hx.symm
   have ac:=aj.rd;have ap:=aj.nil;rw[hπ]at ac ap|-;rw[al];have a2:((q:Int)==(q:Int))=true:=by simp
   have o4:=Zl V g 0 (.slice x.A π.length x.cap);have o5:=Zl (V.setCell ⟨g,0,none⟩ (.slice x.A π.length x.cap)) m 0 (.bool true);have ae:g≠m:=by omega
   have k4:=z.set 0 (.slice x.A π.length x.cap);have k5:=(h5.only o4 (Ne.symm ae)).set 0 (.bool true);have q4:=k4.only o5 ae;have an:=(ac.only o4 (Aaa ac z (by simp))).only o5 (Aaa (ac.only o4 (Aaa ac z (by simp))) (h5.only o4 (Ne.symm ae)) (by simp))
   have HF:Hid (KeepsFrom w5.heap.size V ((V.setCell ⟨g,0,none⟩ (.slice x.A π.length x.cap)).setCell ⟨m,0,none⟩ (.bool true))/\KpX (λi=>(i=g\/i=m)\/i=w5.heap.size+1) V ((V.setCell ⟨g,0,none⟩ (.slice x.A π.length x.cap)).setCell ⟨m,0,none⟩ (.bool true))/\∃s c',Row ((V.setCell ⟨g,0,none⟩ (.slice x.A π.length x.cap)).setCell ⟨m,0,none⟩ (.bool true)) g 22 #[.slice s π.length c']/\Row ((V.setCell ⟨g,0,none⟩ (.slice x.A π.length x.cap)).setCell ⟨m,0,none⟩ (.bool true)) m 4 #[.bool true]/\Rd ((V.setCell ⟨g,0,none⟩ (.slice x.A π.length x.cap)).setCell ⟨m,0,none⟩ (.bool true)) s (Qi π)/\(s=none->π=[])/\Below w.heap.size w ((V.setCell ⟨g,0,none⟩ (.slice x.A π.length x.cap)).setCell ⟨m,0,none⟩ (.bool true))/\∀ad,s=some ad->w.heap.size<=ad.block):=
    ⟨(KeepsFrom.of_only z o4).trans (KeepsFrom.of_only (h5.only o4 (Ne.symm ae)) o5),(KpX.only o4 (.inl (.inl rfl))).trans (KpX.only o5 (.inl (.inr rfl))),x.A,x.cap,q4,k5,an,ap,Qp (Qp hb o4 (by omega)) o5 (by omega),a0⟩
   have c4:=z.cellv (i:=0) (v:=.slice none 0 0) rfl;have f4:=z.free 0;have c5:=(h5.only o4 (Ne.symm ae)).cellv (i:=0) (v:=.bool false) rfl;have f5:=(h5.only o4 (Ne.symm ae)).free 0;clear al av hπ ac ap hx aq aj ab aa hb h3 z h5 k4 k5 q4 an o4 o5 am au;gi_wp2_with fail
   obtain⟨e1,e2,s,c',e3,e4⟩:=HF.out;exact⟨e1,e2,rfl,s,⟨c',e3⟩,e4⟩
  ·have a2:((x.to:Int)==(q:Int))=false:=by simp;omega
   have HF:Hid (KeepsFrom w5.heap.size V V/\KpX (λi=>(i=g\/i=m)\/i=w5.heap.size+1) V V/\(Row V B3 3 #[.int .i64 (q:Int)]/\Row V g 22 #[.slice none 0 0]/\Row V m 4 #[.bool false])/\Below w.heap.size w V/\∀y∈d++[x],y.to≠q):=⟨KeepsFrom.refl _ _,KpX.refl _ _,⟨h3,z,h5⟩,hb,λy hy=>by
    rcases L2.1 hy with hy|hy
    ·exact aa y hy
    ·simp at hy;subst hy;exact al⟩
   clear al hx aq aj ab aa hb h3 z h5 am au;gi_wp2_with fail
   exact HF.out
 case stop=>
  rintro D c d V hD _ ⟨rfl,s,c',h1,h2,h3,z,h5,h6⟩ hK;have HF:Hid (Row (V.putObj D (.deferred none)) g 22 #[.slice s π.length c']/\Row (V.putObj D (.deferred none)) m 4 #[.bool true]/\Rd (V.putObj D (.deferred none)) s (Qi π)/\Below w.heap.size w (V.putObj D (.deferred none))):=⟨h1.abide (p:=λ_=>True) (grownBy_putObj' _ _ _) (λr e=>by cases e;exact .inr ⟨trivial,_,hK,rfl⟩),h2.abide (p:=λ_=>True) (grownBy_putObj' _ _ _) (λr e=>by cases e;exact .inr ⟨trivial,_,hK,rfl⟩),h3.grown (grownBy_putObj' _ _ _) (λr e=>by cases e;exact⟨_,hK,rfl⟩),h5.grown (grownBy_putObj' _ _ _) h5.size (λk e=>by cases e;omega)⟩;have HK:=Lh hK;have H4:=Lh z;have H6:=Lh h6;clear hK h1 h2 h3 z h5 h6 hD;gi_wp2_with fail
  refine⟨by simp,.inl ⟨_,_,rfl,run_takeDeferred HK.out,?_⟩⟩;refine⟨_,Aab Tryz.results152 _ _ ⟨g,0,none⟩ ⟨m,0,none⟩ (.slice s π.length c') (.bool true) rfl rfl ?_ ?_,⟨s,c',rfl,HF.out.2.2.1,H4.out,HF.out.2.2.2,H6.out⟩⟩
  ·have c:=HF.out.1.cellv (i:=0) (v:=.slice s π.length c') rfl;simp[loadVar,go_sem,c]
  ·have c:=HF.out.2.1.cellv (i:=0) (v:=.bool true) rfl;simp[loadVar,go_sem,c]
 case done=>
  rintro D xs V hD a3 ⟨_,_,aa⟩ hK;exfalso;have h1:=Hq.out;rw[<-a3,L4]at h1;obtain⟨x,hx,he⟩:=Option.map_eq_some_iff.1 h1;exact aa x (Lf hx) (by injection he)
end Go.Proofs.YtkoikjnlpifbjaaGreat
namespace Go.Proofs.YtkoikjnlpifbjaaGreat
open Go.RowKit
section
variable {P:Program} {ops:Array Oper} {Q:Exit->Act->World->Prop} {l:Nat}
theorem Ajc{o:Oper}(hnd:∀c,o.op≠.defer c){a:Act}{w:World}{K K':Act->World->Prop}(h:∀a w,K a w->K' a w)(hh:o.wp P a w K Q):o.wpIn (Fence.wide.inRound l) 0 P a w K' Q:=by
 unfold Oper.wpIn;refine⟨λ_ _=>trivial,?_⟩;rw[Oper.semAt_plain _ _ _ hnd];unfold Oper.wp at hh;generalize (execOp a.eval o).run P w=r at*;cases r with
 |ok x i=>
  cases x with
  |value v=>exact h _ _ hh
  |skip=>exact h _ _ hh
  |defer d=>exact h _ _ hh
  |enter f args=>
   refine⟨λe=>by simp[Fence.wide]at e,CallsIn.inRound l (callsIn_wide.2 (Calls.mono (hh:Calls _ _ _ _ _) λe k g=>?_))⟩;cases e with
   |returned v=>exact h _ _ g
   |panicked c=>exact g
   |outgrown=>exact g
  |row rn args=>
   refine⟨λe=>by simp[Fence.wide]at e,λc j _=>?_⟩;obtain⟨v,i,r,s⟩:=(hh:Rows _ _ _ _ _) c j;exact⟨v,i,h _ _ r,stepsIn_wide.2 s⟩
  |_=>exact(hh:False).elim
 |halt x i=>cases x<;>first|exact hh|exact(hh:False).elim
def Ends (Q:Exit->Act->World->Prop):Exit->Act->World->Prop
 | .normal,a,w=>Q .normal a w
 |_,_,_=>False
theorem Ends.imp:∀(e:Exit) (a:Act) (w:World),Ends Q e a w->Q e a w:=λe a w h=>by cases e<;>first|exact h|exact(h:False).elim
theorem YB{a:Act}{w:World}(h:Q .normal a w):Ends Q .normal a w:=h
theorem Ah7:¬LetsOut (Ends Q):=λ⟨_,_,h⟩=>h
def YX (ops:Array Oper):Bool:=ops.all λo=>match o.op with| .defer _=>false|_=>true
theorem Aff{i:Nat}{o:Oper}(h:YX ops=true)(ho:ops[i]? =some o):∀c,o.op≠.defer c:=λc hc=>by
 obtain⟨hi,e⟩:=Lr.1 ho;have:=(Array.all_eq_true.1 h) i hi;rw[e,hc]at this;cases this
theorem AfD (h:YX ops=true){i:Nat}{a:Act}{w:World}{K K':Act->World->Prop}(hK:∀a w,K a w->K' a w)(hh:wpOp P ops (Ends Q) i K a w):wpOpIn (Fence.wide.inRound l) 0 P ops (Ends Q) i K' a w:=by
 unfold wpOp at hh;unfold wpOpIn;cases ho:ops[i]? with
 |none=>simp only[ho]at hh|-;exact hK _ _ hh
 |some o=>
  simp only[ho]at hh|-;by_cases c:Region.wanted o (yielded ops a.tmps)=true
  ·rw[if_pos c];rw[if_pos c]at hh;rcases hh with hh|⟨_,hh⟩
   ·exact Ajc (Aff h ho) hK hh
   ·exact absurd hh Ah7
  ·rw[if_neg c];rw[if_neg c]at hh;exact⟨λ_ _=>trivial,hK _ _ hh⟩
theorem VR{md:Region.Mode}(h:YX ops=true):∀(fuel:Nat) (listed:Array Bool) (a:Act) (w:World),wpAny P md ops (Ends Q) fuel listed a w->wpAnyIn (Fence.wide.inRound l) 0 P md ops (Ends Q) fuel listed a w
 |0,_,_,_,hh=>hh
 |fuel+1,listed,a,w,hh=>⟨hh.1,λi hi=>AfD h (λa w k=>VR h fuel _ a w k) (hh.2 i hi)⟩
theorem VO{id:Nat}{a:Act}{w:World}(hm:P.follows .mixedOrders=true)(hd:YX ops=true)(h:wpAny P .any ops (Ends Q) ops.size (Array.replicate ops.size false) a w.drew):(Code.region id ops true).wpIn (Fence.wide.inRound l) 0 P Q a w:=
 wpIn_mono (wpIn_region_any hm (VR hd _ _ _ _ h)) Ends.imp
end
theorem UO{P:Program}{r:Nat}{id:Nat}{Q:Exit->Act->World->Prop}{a:Act}{w:World}{l:List Oper}(S:World->Prop)(n:Nat)(hm:P.follows .mixedOrders=true)(hd:YX l.toArray=true)(hB:Region.lexTailB .any l.toArray n=true)(hS:S w.drew)
 (h:Z4 P l.toArray S (λa'=>∀W,S W->wpList P l.toArray (Ends Q) (l.drop n) a' W) (l.take n) a):(Code.region id l.toArray true).wpIn (Fence.wide.inRound r) 0 P Q a w:=by
 simp only[Region.lexTailB,LX,decide_eq_true_eq]at hB;obtain⟨⟨⟨⟨k,u⟩,z⟩,x⟩,i⟩:=hB;have y:n<l.length:=by simpa using u
 have c:(l.take n).length=n:=by simp;omega
 have e:(l.drop n).length=l.toArray.size-n:=by simp
 have m:HeadInv .any l.toArray n (Array.replicate l.toArray.size false):=
  ⟨by simp,λj oj _ s=>(by rw[getD_replicate_false]at s;cases s),λt _ ht=>getD_in (by simpa using ht) (getD_replicate_false _ _)⟩
 have H:=YQ (md:=.any) (g:=l.toArray.size-n) k z x u (l.take n) 0 _ a (λj q=>by
  have o:j<n:=by rw[c]at q;exact q
  simp[o]) (by simpa using c) m (by rw[c];exact i) h
 refine VO hm hd ?_
 have:=Xv (Q':=Ends Q) (g:=l.toArray.size-n) (λd a' W p v=>by
  have:=wpAny_of_seq (md:=.any) (Q':=Ends Q) (l.drop n) n d a' W (λj=>by simp[Nn]) (by rw[e];exact p.1) (p.2 W v)
  rwa[e]at this) _ _ _ _ hS H
 rw[c,show n+(l.toArray.size-n)=l.toArray.size by omega]at this;exact this
mutual
def Ys:Tr->Int
 | .node _ ks=>depK ks+1
def depK:List Tr->Int
 |[]=>0
 |t::ts=>max (Ys t) (depK ts)
end
theorem AbX:∀ks:List Tr,0<=depK ks
 |[]=>by rw[depK];omega
 |t::ts=>by rw[depK];have:=AbX ts;omega
theorem Abc (t:Tr):∀a:List Tr,depK (a++[t])=max (depK a) (Ys t)
 |[]=>by
  have h1:0<=Ys t:=by cases t with|node x ks=>rw[Ys];have:=AbX ks;omega
  have h2:depK []=0:=by rw[depK]
  rw[Lm,h2]
  show depK (t::[])=_
  rw[depK.eq_2,h2];omega
 |u::a=>by rw[Ll,depK,depK,Abc t a];omega
mutual
theorem AfS:∀t:Tr,Ys t<=(t.size:Int)
 | .node x ks=>by
  have:=AfR ks
  have h2:(Tr.node x ks).size=(QM ks).length+1:=by rw[Tr.size,Tr.flat,Lc]
  rw[Ys,h2];omega
theorem AfR:∀ks:List Tr,depK ks<=((QM ks).length:Int)
 |[]=>by simp[depK,QM]
 |t::ts=>by
  have:=AfS t
  have:=AfR ts
  have h2:(QM (t::ts)).length=t.size+(QM ts).length:=by rw[QM,Le];rfl
  rw[depK,h2];omega
end
end Go.Proofs.YtkoikjnlpifbjaaGreat
namespace Go.Proofs.YtkoikjnlpifbjaaGreat
open Go.RowKit Go.Deep
attribute [local go_sem] Oper.semAt_some
structure KidsC (A:Option Addr)(cap:Nat)(l:List Nd)(X:Nat->Prop)(ba bl:Nat)(q:Nat)(w:World):Prop where
 hr:Rd w A (l.flatMap Nd.cells)
 hA:l.flatMap Nd.cells≠[]->∀ad,A=some ad->¬X ad.block
 rl:Row w bl 23 #[.slice A l.length cap]
 ra:Row w ba 3 #[.int .i64 (q:Int)]
 xl:¬X bl
 xa:¬X ba
 hX:∀k,X k->k<w.heap.size
theorem KidsC.kx{A:Option Addr}{cap:Nat}{l:List Nd}{X:Nat->Prop}{ba bl:Nat}{q:Nat}{w w':World}(h:KidsC A cap l X ba bl q w)(k:KpX X w w'):KidsC A cap l X ba bl q w':=
 ⟨k.rd h.hr h.hA,h.hA,k.row h.rl h.xl,k.row h.ra h.xa,h.xl,h.xa,λi hi=>Lg (h.hX i hi) k.size⟩
theorem KidsC.add{A:Option Addr}{cap:Nat}{l:List Nd}{X:Nat->Prop}{ba bl:Nat}{q:Nat}{w W:World}{lb:Nat}(h:KidsC A cap l X ba bl q w)(b:Below w.heap.size w W)(h1:w.heap.size<=lb)(h2:lb<W.heap.size):KidsC A cap l (λi=>X i\/i=lb) ba bl q W:=by
 have g:∀k,k<w.heap.size->¬X k->¬(X k\/k=lb):=λk c m h=>by
  rcases h with h|h
  ·exact m h
  ·omega
 exact⟨h.hr.go b,λd j e=>g _ (KY h.hr d e) (h.hA d j e),h.rl.below b h.rl.lt,h.ra.below b h.ra.lt,g _ h.rl.lt h.xl,g _ h.ra.lt h.xa,λk c=>by
  rcases c with c|c
  ·exact Lg (h.hX k c) b.size
  ·omega⟩
def Ajn (full:List Int)(pre:List Int)(x:Int)(_:World):Prop:=∃rest,pre++x::rest=full
theorem VM{l:List Nd}{n j:Nat}{k:Int}(h:j<n):Zx l (n-j) k=k::Zx l (n-(j+1)) (endZ l k):=by
 rw[show n-j=(n-(j+1))+1 by omega,Zx]
theorem Adu (A:Option Addr)(cap:Nat)(l:List Nd)(hl:l.length<=1000)(q:Nat)(t:Tr)(hat:At l q t)(X:Nat->Prop)(ba bl:Nat)(w:World)(hC:KidsC A cap l X ba bl q w):
 Ej Tryz.prog 173 #[.pointer (some ⟨ba,0,none⟩),.pointer (some ⟨bl,0,none⟩)] (λk:Int=>#[.int .i64 k]) (λ_=>False) (λlb=>KpX (λi=>X i\/i=lb)) (Ajn (kidsZ l (q:Int))) (λxs=>xs=kidsZ l (q:Int)) (λ_=>True) t.kids.length True w:=by
 intro lb J Jx W aa h _ hJ am hY h0;have ae:Below w.heap.size w W:=⟨h.os,h.tape,h.output,h.size,λk hk=>h.block k hk (by simp)⟩;have p:=hC.add ae aa.1 aa.2;have g:=hat.fits.arity
 have af:kidsZ l (q:Int)=Zx l t.kids.length (q+1):=by
  unfold kidsZ;rw[hat.endZ,if_neg (by omega),Ln,hat.root,LL,g,Ln]
 have hx:=hat.root;clear hC aa ae h w;rw[af]at hY|-;obtain⟨n,hn⟩:∃n,n=t.kids.length:=⟨_,rfl⟩;rw[<-hn]at hY g|-;obtain⟨x,ah⟩:∃x,x=t.root:=⟨_,rfl⟩;rw[<-ah]at g hx;clear af hn ah hat t;have y:∀c k W1,J c W1->Ajn (Zx l n (q+1)) c k W1->c.length<n->YieldAt Fence.wide 0 Tryz.prog lb #[.int .i64 k] W1 λe W'=>(e=.returned (.bool true)/\J (c++[k]) W'/\KpX (λi=>X i\/i=lb) W1 W')\/(e=.returned (.bool false)/\Jx (c++[k]) W'/\KpX (λi=>X i\/i=lb) W1 W'):=hY;clear hY;generalize (λi=>X i\/i=lb)=X1 at p y;clear X;obtain⟨X,rfl⟩:∃X,X=X1:=⟨_,rfl⟩;obtain⟨ad,an,hc⟩:=J6 p.hr hx;have Hc:=Lh hc;have Hl:=Lh hl;have HC:=Lh p;have HJ:=Lh hJ;have HY:=Lh y;have au:(q:Int)<(l.length:Int):=by have:=(La.1 hx).1;omega
 have hb:=JT x;rw[g]at hb;clear hc hx hJ am y p hl;subst an;refine callsIn_of_wp Tryz.func173 rfl trivial ?_ rfl;simp only[Tryz.ntmps173,Lk,Lc,Lo,Nat.reduceAdd,Nat.reduceSub,Li,Lj,Lp,L5,Lm,Ll];have c1:=HC.out.rl.cellv (i:=0) (v:=.slice (some ad) l.length cap) rfl;have c2:=HC.out.ra.cellv (i:=0) (v:=.int .i64 (q:Int)) rfl;gi_wp2_with (refine Je rfl 65 _ rfl (ad.add (q*2)) rfl x.cells _ Hc.out Tryz.underlying65 rfl (by kernel_rfl) ?_);refine⟨trivial,rfl,(callsIn_wide.2 (XQ x W)).mono ?_⟩;rintro e w2 ⟨rfl,b2⟩;have aj:=Lh (HC.out.kx (KpX.of_below b2));have h0:=QI HJ.out h0 b2;clear b2 c1 c2 Hc HC;rw[g];clear g;gi_wp2;gi_loopw [4,12] (λkk i wr=>∃(j:Nat) (k:Int) (c:List Int),i=.int .i64 (j:Int)/\kk=.int .i64 k/\j<=n/\Hid (c++Zx l (n-j) k=Zx l n (q+1))/\Hid (c.length=j)/\Hid (KpX X w2 wr)/\J c wr) (λ_ i _=>n-(intOf i).toNat)
 case atStart=>exact⟨0,_,[],by simp,rfl,Nat.zero_le _,Lh (by
  have hw:wrap64 ((q:Int)+1)=(q:Int)+1:=by have:=Hl.out;unfold wrap64;omega
  simp[hw]),Lh rfl,Lh (KpX.refl _ _),h0⟩
 case round=>
  obtain⟨j,k,c,rfl,rfl,ar,d,o,ab,z⟩:=hrel;clear h0;by_cases s:j<n
  ·have ag:Ajn (Zx l n (q+1)) c k wr:=⟨_,by rw[<-d.out,VM s]⟩;obtain⟨fn,aq,ai,ap,hy,hR⟩:=HY.out _ k _ z ag (by have:=o.out;omega);have HR:=Lh hR;clear hR z ag;gi_wp2;refine⟨rfl,HR.out.mono ?_⟩;rintro e W' (⟨rfl,z,hk⟩|⟨rfl,ao,hk⟩);rotate_left
   ·clear hy HR;gi_wp2;refine bodyPost_ret (results_none rfl _ _ _) rfl ?_;exact⟨⟨_,rfl⟩,.inr ⟨_,trivial,ao⟩⟩
   have m:=Lh (ab.out.trans hk);have u:=Lh (aj.out.kx m.out);have c1:=u.out.rl.cellv (i:=0) (v:=.slice (some ad) l.length cap) rfl;clear hy HR hk;gi_wp2;refine⟨trivial,rfl,(callsIn_wide.2 (JH (some ad) cap l k W' u.out.hr Hl.out)).mono ?_⟩;rintro e w3 ⟨rfl,b3⟩;have z:=QI HJ.out z b3;have ac:=Lh (m.out.trans (KpX.of_below b3));have al:Hid ((c++[k])++Zx l (n-(j+1)) (endZ l k)=Zx l n (q+1)):=by show _=_;rw[<-d.out,VM s];simp
   have ak:Hid ((c++[k]).length=j+1):=by show _=_;rw[Le,o.out];rfl
   clear b3 c1 ab m d o u;gi_wp2;go_roundw
   case rel=>exact⟨j+1,_,_,by go_num,rfl,by omega,al,ak,ac,z⟩
   case measure=>simp[intOf];omega
  ·obtain rfl:j=n:=by omega
   gi_wp2;go_end0
   refine⟨⟨_,rfl⟩,.inl ⟨_,?_,z⟩⟩;have:=d.out;rw[N3]at this;rw[<-this];simp[Zx]
theorem AgB (A:Option Addr)(cap:Nat)(l:List Nd)(hl:l.length<=1000):∀(n:Nat) (t:Tr) (q:Nat),t.size<=n->At l q t->∀w,Rd w A (l.flatMap Nd.cells)->
 Calls Tryz.prog 103 #[.slice A l.length cap,.int .i64 (q:Int)] w λe w'=>e=.returned (.int .i64 (Ys t))/\Below w.heap.size w w':=by
 intro n
 induction n with
 |zero=>intro t q hn;have:=t.size_eq;omega
 |succ n ih=>
 intro t q hn ae w hr;have aj:=Lh ih;have He:=Lh (λW h=>JH A cap l (q:Int) W h hl);rw[ae.endZ]at He;have Hr:=Lh hr;have Hl:=Lh hl;have aa:=Lh ae;have Hn:=Lh hn;have ay:q+t.size<=l.length:=ae.le;have a5:=AfS t;have ax:((q+t.size:Nat):Int)<=1000:=by omega
 obtain⟨Q,hQ⟩:∃Q,Q=q+t.size:=⟨_,rfl⟩;rw[<-hQ]at He ax;have a1:¬((Q:Int)<0):=by omega
 clear ih hl hr ae hn hQ ay;refine(callsIn_wide (n:=0)).1 ?_;refine callsIn_of_wp_marks Tryz.func103 rfl trivial ?_;simp only[Tryz.ntmps103,Lk,Lc,Lo,Nat.reduceAdd,Nat.reduceSub,Li,Lj,Lp,L5,Lm,Ll];gi_wp2_with fail
 obtain⟨LB,ai⟩:∃B,B=w.heap.size:=⟨_,rfl⟩;obtain⟨w1,af⟩:∃w1,w1=w.alloc (.cells #[.slice A l.length cap] 23):=⟨_,rfl⟩;have rL:Row w1 LB 23 #[.slice A l.length cap]:=by rw[af,ai];exact Row.new _ _ _
 have y:Below w.heap.size w w1:=by rw[af];exact(Below.refl _ _).alloc (Nat.le_refl _) _
 rw[<-af, <-ai];have gL:w.heap.size<=LB:=by omega
 clear af ai;refine⟨trivial,rfl,(callsIn_wide.2 (He.out w1 (Hr.out.go y))).mono ?_⟩;rintro e w2 ⟨rfl,b2⟩;replace rL:=rL.below b2 rL.lt;replace y:=y.trans (b2.mono y.size);clear b2 He;have cL:(w2.alloc (.cells #[.int .i64 0] 3)).cell? ⟨LB,0,none⟩=some (.slice A l.length cap):=(rL.alloc _).cellv (i:=0) rfl;gi_wp2_with fail
 obtain⟨G,hG⟩:∃B,B=w2.heap.size:=⟨_,rfl⟩;obtain⟨w3,ag⟩:∃w3,w3=w2.alloc (.cells #[.int .i64 0] 3):=⟨_,rfl⟩;have rG:Row w3 G 3 #[.int .i64 0]:=by rw[ag,hG];exact Row.new _ _ _
 have b3:Below w2.heap.size w2 w3:=by rw[ag];exact(Below.refl _ _).alloc (Nat.le_refl _) _
 rw[<-ag, <-hG];have a0:LB<G:=by have:=rL.lt;omega
 clear cL;replace rL:=rL.below b3 rL.lt;replace y:=y.trans (b3.mono y.size);clear ag hG b3;refine⟨trivial,rfl,(callsIn_wide.2 (ET A cap l (q:Int) w3)).mono ?_⟩;rintro e w4 ⟨bl,ba,rfl,rl,ra,gl,ga,b4⟩;have lG:=rG.lt;replace rL:=rL.below b4 rL.lt;replace rG:=rG.below b4 rG.lt;replace y:=y.trans (b4.mono y.size);have hC:KidsC A cap l (λk=>k=G) ba bl q w4:=⟨Hr.out.go y,λaw ad e h=>by have:=KY Hr.out aw e;omega,rl,ra,by omega,by omega,λk hk=>by have:=rG.lt;omega⟩;have au:=Lh (Adu A cap l Hl.out q t aa.out (λk=>k=G) ba bl w4 hC);have Hb:=Lh y;have a6:=y.size;have sG:=rG.lt;clear hC rl ra b4 y gl ga lG;gi_wp2_with fail
 have aq:Hid (Row w4 G 3 #[.int .i64 (depK (t.kids.take ([]:List Int).length))]/\Row w4 LB 23 #[.slice A l.length cap]/\Below w.heap.size w w4):=⟨by simpa[depK]using rG,rL,Hb.out⟩;clear rL rG Hb
 refine Uo (gf:=173) (lb:=#[.pointer (some ⟨ba,0,none⟩),.pointer (some ⟨bl,0,none⟩)]) rfl (enters_of Tryz.func173 (by kernel_rfl) rfl) au.out (λr h=>h.elim)
  (λh k=>h.trans k) (λV o o' ho hc=>⟨λi p hx hp=>by rw[World.putObj_heap_other (λe=>hx (.inr e))];exact hp,by simp⟩) (World.grownBy.refl _ _) (λ_=>rfl)
  (λg V=>Row V G 3 #[.int .i64 (depK (t.kids.take g.length))]/\Row V LB 23 #[.slice A l.length cap]/\Below w.heap.size w V)
  (λ_ _ _=>False) (.inl trivial) ?hI ?hIx aq.out
  (λg x a' V=>a'={ tmps:=#[.slice A l.length cap,.int .i64 (q:Int),.pointer (some ⟨LB,0,none⟩),undef,.int .i64 0,.pointer (some ⟨G,0,none⟩),.int .i64 x,.slice A l.length cap,.int .i64 (q:Int),.int .i64 (Q:Int),.bool (decide ((Q:Int)<0)),.slice A l.length cap,.int .i64 (q:Int),.func (.func 173) #[] #[.pointer (some ⟨ba,0,none⟩),.pointer (some ⟨bl,0,none⟩)],.int .i64 x,undef,undef,undef,undef,undef,undef,undef],defers:=[] }/\Ajn (kidsZ l (q:Int)) g x V) ?hAx ?assign ?body ?done ?stop
 case hI=>
  rintro g V V' row ⟨j,h2,h3⟩ hg hr;refine⟨j.abide hg hr,h2.abide hg hr,h3.grown hg h3.size (λk e=>?_)⟩;rcases hr k e with h|⟨h,_⟩
  ·exact h.elim
  ·omega
 case hIx=>exact λ_ _ _ _ _ h _ _=>h
 case hAx=>exact λg x a' _ _ _ _ h _ _=>h
 case stop=>exact λD c g W _ _ h _=>h.elim
 case assign=>
  rintro l3 g x V K hI hP hK;have HK:=Lh hK;have HI:=Lh hI;have HP:=Lh hP;clear hK hI hP;gi_wp2_with fail
  exact HK.out _ _ (KeepsFrom.refl _ _) (KpX.refl _ _) HI.out ⟨rfl,HP.out⟩
 case body=>
  rintro l3 g x a' V av _ ⟨j,h2,h3⟩ ⟨rfl,az,ab⟩ ah;obtain⟨k,hk⟩:∃k,t.kids[g.length]? =some k:=⟨_,Lb ah⟩;obtain⟨r,hr⟩:∃r,(Q1 (q+1) t.kids)[g.length]? =some r:=Acq hk
  have hx:x=(r:Int):=by
   have e:=aa.out.kidsZ;rw[<-ab]at e;have e2:=congrArg (λz=>z[g.length]?) e;simp[hr]at e2;exact e2
  have ak:=(aa.out.kids.spot _ _ _ hr hk).1
  have an:k.size<=n:=by
   have h4:=UE (Lf hk);have h5:=t.size_eq;have:=Hn.out;omega
  have am:depK (t.kids.take (g.length+1))=max (depK (t.kids.take g.length)) (Ys k):=by
   rw[L9,hk];exact Abc k _
  have s:=Lh (λW h=>aj.out k r an ak W h);have ac:=Lh am;subst hx;obtain⟨m,hm⟩:∃m,m=depK (t.kids.take g.length):=⟨_,rfl⟩;obtain⟨d,hd⟩:∃d,d=Ys k:=⟨_,rfl⟩;rw[<-hm]at j ac;rw[<-hd]at s ac;have a2:=j.lt;obtain⟨S,u⟩:∃S,S=(λW=>Row W G 3 #[.int .i64 m]/\Row W LB 23 #[.slice A l.length cap]/\Rd W A (l.flatMap Nd.cells)/\Below V.heap.size V W):=⟨_,rfl⟩;have a7:St S:=by rw[u];infer_instance
  have T0:Hid (∀W,S W->Row W G 3 #[.int .i64 m]):=by show ∀W,_;rw[u];exact λW h=>h.1
  have T1:Hid (∀W,S W->Row W LB 23 #[.slice A l.length cap]):=by show ∀W,_;rw[u];exact λW h=>h.2.1
  have T2:Hid (∀W,S W->Rd W A (l.flatMap Nd.cells)):=by show ∀W,_;rw[u];exact λW h=>h.2.2.1
  have T3:Hid (∀W,S W->Below V.heap.size V W):=by show ∀W,_;rw[u];exact λW h=>h.2.2.2
  have hS:S V:=by rw[u];exact⟨j,h2,Hr.out.go h3,Below.refl _ _⟩
  have H3:=Lh h3;have s3:=h3.size;clear u j h2 h3 ab hk hr ak an am hm hd ah av aj Hr;gi_wp2_with fail
  refine UO S 5 (by kernel_rfl) (by kernel_rfl) (by kernel_rfl) (St.drew hS) ?_;clear hS;simp only[L0,LE,Lz,LA];(refine Qg rfl ?_ (λW hW=>?_) ?_;rotate_left;(focus(have c:=(T0.out W hW).cellv (i:=0) rfl;go_simp;exact rfl));simp only[Act.put,Qa,Qb,Qc]);(refine Qg rfl ?_ (λW hW=>?_) ?_;rotate_left;(focus(have c:=(T1.out W hW).cellv (i:=0) rfl;go_simp;exact rfl));simp only[Act.put,Qa,Qb,Qc]);(refine Qg rfl ?_ (λW hW=>?_) ?_;rotate_left;(focus(go_simp;exact rfl));simp only[Act.put,Qa,Qb,Qc]);(refine Q8 rfl 103 _ (λW=>by(go_simp;try rfl)) (.int .i64 d) (λW hW=>s.out W (T2.out W hW)) ?_;simp only[Act.put,Qa,Qb,Qc])
  (refine Qg rfl ?_ (λW hW=>?_) ?_;rotate_left;(focus(go_simp;exact rfl));simp only[Act.put,Qa,Qb,Qc]);refine Q4 λW hS=>?_
  have j:=T0.out W hS;have b4:=T3.out W hS;have o4:=Zl W G 0 (.int .i64 (max m d))
  have HF:Hid (KeepsFrom w4.heap.size V (W.setCell ⟨G,0,none⟩ (.int .i64 (max m d)))/\KpX (λi=>i=G\/i=w4.heap.size+1) V (W.setCell ⟨G,0,none⟩ (.int .i64 (max m d)))/\Row (W.setCell ⟨G,0,none⟩ (.int .i64 (max m d))) G 3 #[.int .i64 (depK (t.kids.take (g++[(r:Int)]).length))]/\Row (W.setCell ⟨G,0,none⟩ (.int .i64 (max m d))) LB 23 #[.slice A l.length cap]/\Below w.heap.size w (W.setCell ⟨G,0,none⟩ (.int .i64 (max m d)))):=
   ⟨(KpX.of_below b4).keeps (X:=λ_=>False) (λ_ h=>h.elim) |>.trans (KeepsFrom.of_only j o4),((KpX.of_below b4).more (λ_ h=>(h:False).elim)).trans (KpX.only o4 (.inl rfl)),by rw[Le];simp only[Lc,Lo,LG];rw[ac.out];exact j.set 0 _,(T1.out W hS).only o4 (by omega),Qp (H3.out.trans (b4.mono s3)) o4 (by omega)⟩
  have c:=j.cellv (i:=0) (v:=.int .i64 m) rfl;have f:=j.free 0;clear j b4 o4 T0 T1 T2 T3 s ac hS;go_wp2_with fail
  all_goals
   refine YB ?_
   first|rw[show max m d=d by omega]at HF|rw[show max m d=m by omega]at HF|skip
   gi_wp2_with fail
   exact HF.out
 case done=>
  rintro D ys V hD ap ⟨j,h2,h3⟩ hK;have ao:ys.length=t.kids.length:=by rw[ap,aa.out.kidsZ,Lu,Ju]
  rw[ao,LT]at j;have al:Ys t=depK t.kids+1:=by cases t;rfl
  have hc:=j.cellv (i:=0) (v:=.int .i64 (depK t.kids)) rfl;have HK:=Lh hK;have H3:=Lh h3;have ar:=Lh al;have a4:depK t.kids<=1000:=by have:=aa.out.le;have:=Hl.out;omega
  have a3:=AbX t.kids;clear hK j h2 h3 ap ao al;gi_wp2;refine⟨by simp,.inl ⟨_,_,rfl,run_takeDeferred HK.out,?_⟩⟩;refine⟨_,results_tmp rfl _ _ _,?_,H3.out.grown (grownBy_putObj' _ _ _) H3.out.size (λk e=>by cases e;omega)⟩;rw[ar.out];rfl
end Go.Proofs.YtkoikjnlpifbjaaGreat
namespace Go.Proofs.YtkoikjnlpifbjaaGreat
open Go.RowKit
structure Whole (l:List Nd)(t:Tr):Prop where
 hat:At l 0 t
 size:t.size=l.length
theorem Whole.of{l:List Nd}(h:endZ l 0=(l.length:Int)):∃t,Whole l t:=by
 obtain⟨t,c,_⟩:=Ue (l:=l) (a:=0) (by omega);have d:=c.endZ;have e:endZ l 0=((0+t.size:Nat):Int):=by simpa using d
 exact⟨t,c,by omega⟩
theorem Whole.endZ{l:List Nd}{t:Tr}(h:Whole l t):endZ l 0=(l.length:Int):=by
 have c:=h.hat.endZ;rw[h.size]at c;simpa using c
theorem Whole.uniq{l:List Nd}{a b:Tr}(h:Whole l a)(k:Whole l b):a=b:=h.hat.uniq k.hat
theorem Whole.pos{l:List Nd}{t:Tr}(h:Whole l t):0<l.length:=by have:=h.hat.lt;omega
theorem Good.whole{p:PgV}{t:Tr}(h:Good p t):Whole p.body t:=⟨h.hat,h.size⟩
open Classical in
noncomputable def ZV (l:List Nd):Int:=
 if l.length=0 then 10 else if 200<l.length then 4 else if ∃x∈l,Qv x<0 then 11 else if endZ l 0≠(l.length:Int)then 12 else if ∃t,Whole l t/\30<Ys t then 13 else 0
theorem AcT{l:List Nd}(h:l.length=0):ZV l=10:=by unfold ZV;rw[if_pos h]
theorem AcU{l:List Nd}(h:200<l.length):ZV l=4:=by unfold ZV;rw[if_neg (by omega),if_pos h]
theorem AcV{l:List Nd}(h0:¬l.length=0)(h1:¬200<l.length){x:Nd}(hx:x∈l)(h:Qv x<0):ZV l=11:=by unfold ZV;rw[if_neg h0,if_neg h1,if_pos ⟨x,hx,h⟩]
theorem AcW{l:List Nd}(h0:¬l.length=0)(h1:¬200<l.length)(h2:∀x∈l,¬Qv x<0)(h:endZ l 0≠(l.length:Int)):ZV l=12:=by
 unfold ZV;rw[if_neg h0,if_neg h1,if_neg (λ⟨x,hx,hn⟩=>h2 x hx hn),if_pos h]
theorem Et{l:List Nd}(h1:¬200<l.length)(h2:∀x∈l,¬Qv x<0){t:Tr}(ht:Whole l t):ZV l=if 30<Ys t then 13 else 0:=by
 have d:=ht.pos;unfold ZV;rw[if_neg (by omega),if_neg h1,if_neg (λ⟨x,hx,hn⟩=>h2 x hx hn),if_neg (λh=>h ht.endZ)];by_cases c:30<Ys t
 ·rw[if_pos c,if_pos ⟨t,ht,c⟩]
 ·rw[if_neg c,if_neg (λ⟨u,hu,hn⟩=>c (by rw[ht.uniq hu];exact hn))]
theorem Aa7{l:List Nd}(h:ZV l=0):l.length<=200/\(∀x∈l,¬Qv x<0)/\∃t,Whole l t/\Ys t<=30:=by
 by_cases e:l.length=0
 ·rw[AcT e]at h;cases h
 by_cases d:200<l.length
 ·rw[AcU d]at h;cases h
 by_cases j:∃x∈l,Qv x<0
 ·obtain⟨x,i,g⟩:=j;rw[AcV e d i g]at h;cases h
 have c:∀x∈l,¬Qv x<0:=λx i g=>j ⟨x,i,g⟩
 by_cases k:endZ l 0=(l.length:Int)
 ·obtain⟨t,m⟩:=Whole.of k;rw[Et d c m]at h;refine⟨by omega,c,t,m,?_⟩;by_cases n:30<Ys t
  ·rw[if_pos n]at h;cases h
  ·omega
 ·rw[AcW e d c k]at h;cases h
open Classical in
noncomputable def QX (p:PgV):Int:=if ZV p.body≠0 then ZV p.body else if JB p.params p.V≠0 then 14 else if ∃t,Good p t then 0 else 15
theorem AcX{p:PgV}(h:ZV p.body≠0):QX p=ZV p.body:=by unfold QX;rw[if_pos h]
theorem AcY{p:PgV}(h:ZV p.body=0)(h1:JB p.params p.V≠0):QX p=14:=by unfold QX;rw[if_neg (by simp[h]),if_pos h1]
theorem Eu{p:PgV}(h:ZV p.body=0)(h1:JB p.params p.V=0)(h2:∀t,¬Good p t):QX p=15:=by
 unfold QX;rw[if_neg (by simp[h]),if_neg (by simp[h1]),if_neg (λ⟨t,ht⟩=>h2 t ht)]
theorem AcZ{p:PgV}(h:ZV p.body=0)(h1:JB p.params p.V=0){t:Tr}(h2:Good p t):QX p=0:=by
 unfold QX;rw[if_neg (by simp[h]),if_neg (by simp[h1]),if_pos ⟨t,h2⟩]
structure Fine (p:PgV)(t:Tr):Prop where
 good:Good p t
 len:p.body.length<=200
 ar:∀x∈p.body,¬Qv x<0
 dep:Ys t<=30
theorem checkP_ok{p:PgV}:QX p=0<->∃t,Fine p t:=by
 constructor
 ·intro h;by_cases e:ZV p.body=0
  ·by_cases g:JB p.params p.V=0
   ·by_cases i:∃t,Good p t
    ·obtain⟨t,d⟩:=i;obtain⟨a,b,u,k,c⟩:=Aa7 e;have:t=u:=d.whole.uniq k;exact⟨t,d,a,b,by rw[this];exact c⟩
    ·rw[Eu e g (λt d=>i ⟨t,d⟩)]at h;cases h
   ·rw[AcY e g]at h;cases h
  ·rw[AcX e]at h;exact absurd h e
 ·rintro⟨t,d⟩;have j:ZV p.body=0:=by rw[Et (by have:=d.len;omega) d.ar d.good.whole,if_neg (by have:=d.dep;omega)]
  refine AcZ j ?_ d.good;unfold JB;rw[if_pos d.good.vars]
end Go.Proofs.YtkoikjnlpifbjaaGreat
