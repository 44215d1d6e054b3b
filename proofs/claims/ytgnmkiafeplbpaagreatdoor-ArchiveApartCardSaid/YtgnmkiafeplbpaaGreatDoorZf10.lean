/- Lemmas for ArAll. -/
import Derived.Test.YtgnmkiafeplbpaaGreatDoorZf9
import Derived.Test.YtgnmkiafeplbpaaGreatDoorZf1
import Derived.Test.YtgnmkiafeplbpaaGreatDoorZf2
import Derived.Test.YtgnmkiafeplbpaaGreatDoorZf7
import Derived.OrdersIn
import Derived.RangeFuncCalls
set_option linter.unusedVariables false
set_option linter.unusedSimpArgs false
set_option maxRecDepth 100000
set_option maxHeartbeats 16000000
namespace Go.Proofs.YtgnmkiafeplbpaaGreatDoor
open Go.RowKit Go.Deep
attribute [local go_sem] Oper.semAt_some
theorem QN{P:Program}{fn:Func}{p p':Tmp}{ty ty':TypeId}(h:fn.results=#[.cell p ty,.cell p' ty'])(tmps:Array Value)(w:World)(a a':Addr)(v v':Value)(hp:tmps.getD p undef=.pointer (some a))(hp':tmps.getD p' undef=.pointer (some a'))
 (hv:(loadVar ty a).run P w=.ok v w) (hv':(loadVar ty' a').run P w=.ok v' w):(results fn tmps).run P w=.ok (.tuple #[v,v']) w:=by
 have b:tmps[p]?.getD undef=.pointer (some a):=by simpa using hp
 have c:tmps[p']?.getD undef=.pointer (some a'):=by simpa using hp'
 simp[results,h,b,c,asAddr,hv,hv']
theorem Row.abide{W W':World}{g:Nat}{t:TypeId}{cs:Array Value}{row:Option Nat}{p:Nat->Prop}(h:Row W g t cs)(hg:W.grownBy W' row)(hr:∀r,row=some r->False\/(p r/\∃o:Obj,W.heap[r]? =some o/\o.isCells=false)):Row W' g t cs:=
 h.grown hg (λe=>by
  rcases hr g e with h'|⟨_,o,ho,hc⟩
  ·exact h'
  ·rw[h]at ho;cases ho;cases hc)
structure PathR (π:List Int)(w w':World)(e:Ending):Prop where
 ex:∃A cap,e=.returned (.tuple #[.slice A π.length cap,.bool true])/\Rd w' A (Qj π)/\(A=none->π=[])/\Below w.heap.size w w'/\∀ad,A=some ad->w.heap.size<=ad.block
theorem KpX.only{X:Nat->Prop}{A B:World}{g:Nat}(o:Only g A B)(hg:X g):KpX X A B:=⟨λk p hx hp=>by rw[o.block k (λe=>hx (e▸hg))];exact hp,LI o.size.symm⟩
theorem Rd.only{A B:World}{ad:Option Addr}{xs:List Value}(h:Rd A ad xs){g:Nat}(o:Only g A B)(hx:xs≠[]->∀a,ad=some a->a.block≠g):Rd B ad xs:=
 (KpX.only (X:=λk=>k=g) o rfl).rd h hx
theorem Aa4{A:World}{ad:Option Addr}{l:List Int}(h:Rd A ad (Qj l)){g:Nat}{t:TypeId}{v:Value}(hr:Row A g t #[v])(hv:∀n,v≠.int .i64 n):Qj l≠[]->∀a,ad=some a->a.block≠g:=λhne a e hb=>by
 cases l with
 |nil=>exact hne rfl
 |cons x l=>
  obtain⟨k,c,b⟩:=h 0 (.int .i64 x) rfl;rw[e]at c;injection c with c;subst c;have j:a.add 0=a:=by unfold Addr.add;rw[if_pos rfl]
  rw[j]at b;have i:A.heap[a.block]? =some (.cells #[v] t (0,0)):=by rw[hb];exact hr
  unfold World.cell? at b;rw[i]at b;simp only at b;split at b
  ·cases b
  ·by_cases d:a.off=0
   ·rw[d]at b;exact hv x (by simpa using b)
   ·rw[N0 (by simp;omega)]at b;cases b
theorem Af9 (A:Option Addr)(cap:Nat)(l:List Nd)(t:Tr)(q:Nat)(π:List Int)(w:World)(hat:At l 0 t)(hsz:t.size=l.length)(hq:(QS [] 0 t)[q]? =some (q,π))(hr:Rd w A (l.flatMap Nd.cells))(hl:l.length<=1000):
 Calls Tryz.prog 258 #[.slice A l.length cap,.int .i64 (q:Int)] w λe w'=>PathR π w w' e:=by
 have He:=Lv (λW h=>Xp A cap l (0:Int) W h hl)
 have aq:endZ l 0=(l.length:Int):=by
  have:=hat.endZ;rw[hsz]at this;simpa using this
 rw[aq]at He;have Hr:=Lv hr;have Hl:=Lv hl;have aw:=Lv hat;have ay:=Lv hsz;have Hq:=Lv hq;clear hr hl hat hsz hq aq;refine(callsIn_wide (n:=0)).1 ?_;refine callsIn_of_wp_marks Tryz.func258 rfl trivial ?_;simp only[Tryz.ntmps258,Ly,Le,Ll,Nat.reduceAdd,Nat.reduceSub,Ln,Lp,Lz,LD,Lu,Lk];gi_wp2_with fail
 obtain⟨B3,ag⟩:∃B,B=w.heap.size:=⟨_,rfl⟩;obtain⟨w1,ae⟩:∃w1,w1=w.alloc (.cells #[.int .i64 (q:Int)] 3):=⟨_,rfl⟩;have r3:Row w1 B3 3 #[.int .i64 (q:Int)]:=by rw[ae,ag];exact Row.new _ _ _
 have b1:Below w.heap.size w w1:=by rw[ae];exact(Below.refl _ _).alloc (Nat.le_refl _) _
 obtain⟨b,ah⟩:∃B,B=w1.heap.size:=⟨_,rfl⟩;obtain⟨w2,af⟩:∃w2,w2=w1.alloc (.cells #[.slice none 0 0] 22):=⟨_,rfl⟩;have r4:Row w2 b 22 #[.slice none 0 0]:=by rw[af,ah];exact Row.new _ _ _
 have b2:Below w1.heap.size w1 w2:=by rw[af];exact(Below.refl _ _).alloc (Nat.le_refl _) _
 obtain⟨d,an⟩:∃B,B=w2.heap.size:=⟨_,rfl⟩;obtain⟨w3,aj⟩:∃w3,w3=w2.alloc (.cells #[.bool false] 4):=⟨_,rfl⟩;have r5:Row w3 d 4 #[.bool false]:=by rw[aj,an];exact Row.new _ _ _
 have b3:Below w2.heap.size w2 w3:=by rw[aj];exact(Below.refl _ _).alloc (Nat.le_refl _) _
 have e4:B3+1=b:=by rw[ah,ae,World.size_alloc,ag]
 have e5:b+1=d:=by rw[an,af,World.size_alloc,ah]
 rw[<-ae, <-af, <-aj, <-ag,e4,e5];clear e4 e5;have l3:=r3.lt;have l4:=r4.lt;have bb:Below w.heap.size w w3:=b1.trans ((b2.mono b1.size).trans (b3.mono (by have:=b1.size;have:=b2.size;omega)));replace r3:=(r3.below b2 l3).below b3 (by have:=b2.size;omega);replace r4:=r4.below b3 l4;have g3:w.heap.size<=B3:=by omega
 have a4:B3<b:=by omega
 have a5:b<d:=by omega
 clear b1 b2 b3 ae af aj ag ah an l3 l4;refine⟨trivial,rfl,(callsIn_wide.2 (He.out w3 (Hr.out.go bb))).mono ?_⟩;rintro e w4 ⟨rfl,b4⟩;replace r3:=r3.below b4 r3.lt;replace r4:=r4.below b4 r4.lt;replace r5:=r5.below b4 r5.lt;replace bb:=bb.trans (b4.mono bb.size);clear b4 He;gi_wp2_with fail
 refine⟨trivial,rfl,(callsIn_wide.2 (YP A cap l 0 none 0 [] w4)).mono ?_⟩;rintro e w5 ⟨bl,ba,bo,rfl,rl,ra,ro,gl,ga,go,b5⟩;have l5:=r5.lt;replace r3:=r3.below b5 r3.lt;replace r4:=r4.below b5 r4.lt;replace r5:=r5.below b5 r5.lt;replace bb:=bb.trans (b5.mono bb.size);have hC:PathsC w.heap.size A cap l (λk=>k=b\/k=d) ba bo bl none 0 [] 0 w5:=⟨Hr.out.go bb,λa0 ad e h=>by have:=X3 Hr.out a0 e;omega,rl,ra,ro,by omega,by omega,by omega,λj u hj=>by simp[Qj]at hj,λh=>absurd rfl h,λ_=>rfl,λk hk=>by have:=r4.lt;have:=r5.lt;omega,λ_ e=>(nomatch e),bb.size⟩;have ax:=Lv (Aga A cap l Hl.out t.size t 0 [] (Nat.le_refl _) (by have:=ay.out;have:=Hl.out;simp;omega) aw.out w.heap.size (λk=>k=b\/k=d) ba bo bl none 0 w5 hC);have Hb:=Lv bb;have s5:=r5.lt;clear hC rl ra ro b5 l5 bb;gi_wp2_with fail
 have av:Hid ((Row w5 B3 3 #[.int .i64 (q:Int)]/\Row w5 b 22 #[.slice none 0 0]/\Row w5 d 4 #[.bool false])/\Below w.heap.size w w5/\∀x∈([]:List PtX),x.to≠q):=⟨⟨r3,r4,r5⟩,Hb.out,λx hx=>by simp at hx⟩;have sb:=Hb.out.size;clear r3 r4 r5 Hb
 refine YU (gf:=280) (lb:=#[.pointer (some ⟨ba,0,none⟩),.pointer (some ⟨bo,0,none⟩),.pointer (some ⟨bl,0,none⟩)]) rfl (enters_of Tryz.func280 (by kernel_rfl) rfl) ax.out (λr h=>h.elim)
  (λh k=>h.trans k) (λV o o' ho hc=>⟨λi p hx hp=>by rw[World.putObj_heap_other (λe=>hx (.inr e))];exact hp,by simp⟩) (World.grownBy.refl _ _) (λ_=>rfl)
  (λa V=>(Row V B3 3 #[.int .i64 (q:Int)]/\Row V b 22 #[.slice none 0 0]/\Row V d 4 #[.bool false])/\Below w.heap.size w V/\∀x∈a,x.to≠q)
  (λc a V=>c=.ret/\∃g c',Row V b 22 #[.slice g π.length c']/\Row V d 4 #[.bool true]/\Rd V g (Qj π)/\(g=none->π=[])/\Below w.heap.size w V/\∀ad,g=some ad->w.heap.size<=ad.block) (.inl trivial) ?hI ?hIx av.out
  (λa x a' V=>a'={ tmps:=#[.slice A l.length cap,.int .i64 (q:Int),undef,.pointer (some ⟨B3,0,none⟩),.pointer (some ⟨b,0,none⟩),.pointer (some ⟨d,0,none⟩),.int .i64 (x.to:Int),.slice x.A x.l.length x.cap,.slice A l.length cap,.int .i64 (l.length:Int),.slice A l.length cap,.int .i64 (l.length:Int),.bool false,.slice A l.length cap,.func (.func 280) #[] #[.pointer (some ⟨ba,0,none⟩),.pointer (some ⟨bo,0,none⟩),.pointer (some ⟨bl,0,none⟩)],.int .i64 (x.to:Int),.slice x.A x.l.length x.cap,undef,undef,undef,undef],defers:=[] }/\PxP w.heap.size (QS [] 0 t) a x V) ?hAx ?assign ?body ?done ?stop
 case hI=>
  rintro a V V' row ⟨⟨h1,h2,h3⟩,m,s⟩ hg hr;refine⟨⟨h1.abide hg hr,h2.abide hg hr,h3.abide hg hr⟩,m.grown hg m.size (λk e=>?_),s⟩;rcases hr k e with h|⟨h,_⟩
  ·exact h.elim
  ·omega
 case hIx=>
  rintro c a V V' row ⟨h0,g,c',h1,h2,h3,m,s,h6⟩ hg hr;refine⟨h0,g,c',h1.abide hg hr,h2.abide hg hr,h3.grown hg (λk e=>?_),m,s.grown hg s.size (λk e=>?_),h6⟩
  ·rcases hr k e with h|⟨_,h⟩
   ·exact h.elim
   ·exact h
  ·rcases hr k e with h|⟨h,_⟩
   ·exact h.elim
   ·omega
 case hAx=>
  rintro a x a' _ V V' row ⟨h1,⟨h2,m⟩,h3⟩ hg hr;refine⟨h1,⟨⟨h2.rd.grown hg (λi e=>?_),h2.nil,h2.len⟩,m⟩,h3⟩;rcases hr i e with h|⟨h,o⟩
  ·exact h.elim
  ·exact o
 case assign=>
  rintro l3 a x V K hI hP hK;have HK:=Lv hK;have HI:=Lv hI;have HP:=Lv hP;clear hK hI hP;unfold PtX.enc;gi_wp2_with fail
  exact HK.out _ _ (KeepsFrom.refl _ _) (KpX.refl _ _) HI.out ⟨rfl,HP.out⟩
 case body=>
  rintro l3 a x a' V ar _ ⟨⟨h3,m,s⟩,hb,z⟩ ⟨rfl,⟨ai,az⟩,a3,aa⟩ al;have hx:(QS [] 0 t)[a.length]? =some (x.to,x.l):=by rw[<-aa,LZ (by simp)];simp[PtX.f]
  have ap:=Ed t [] 0 a.length _ hx;simp only at ap;have c3:=h3.cellv (i:=0) (v:=.int .i64 (q:Int)) rfl;by_cases ak:x.to=q
  ·have au:a.length=q:=by omega
   have hπ:x.l=π:=by
    rw[au,Hq.out]at hx;injection hx with hx;injection hx with _ hx;exact hx.symm
   have ab:=ai.rd;have ao:=ai.nil;rw[hπ]at ab ao|-;rw[ak];have a1:((q:Int)==(q:Int))=true:=by simp
   have o4:=Qu V b 0 (.slice x.A π.length x.cap);have o5:=Qu (V.setCell ⟨b,0,none⟩ (.slice x.A π.length x.cap)) d 0 (.bool true);have ac:b≠d:=by omega
   have k4:=m.set 0 (.slice x.A π.length x.cap);have k5:=(s.only o4 (Ne.symm ac)).set 0 (.bool true);have q4:=k4.only o5 ac;have am:=(ab.only o4 (Aa4 ab m (by simp))).only o5 (Aa4 (ab.only o4 (Aa4 ab m (by simp))) (s.only o4 (Ne.symm ac)) (by simp))
   have HF:Hid (KeepsFrom w5.heap.size V ((V.setCell ⟨b,0,none⟩ (.slice x.A π.length x.cap)).setCell ⟨d,0,none⟩ (.bool true))/\KpX (λi=>(i=b\/i=d)\/i=w5.heap.size+1) V ((V.setCell ⟨b,0,none⟩ (.slice x.A π.length x.cap)).setCell ⟨d,0,none⟩ (.bool true))/\∃g c',Row ((V.setCell ⟨b,0,none⟩ (.slice x.A π.length x.cap)).setCell ⟨d,0,none⟩ (.bool true)) b 22 #[.slice g π.length c']/\Row ((V.setCell ⟨b,0,none⟩ (.slice x.A π.length x.cap)).setCell ⟨d,0,none⟩ (.bool true)) d 4 #[.bool true]/\Rd ((V.setCell ⟨b,0,none⟩ (.slice x.A π.length x.cap)).setCell ⟨d,0,none⟩ (.bool true)) g (Qj π)/\(g=none->π=[])/\Below w.heap.size w ((V.setCell ⟨b,0,none⟩ (.slice x.A π.length x.cap)).setCell ⟨d,0,none⟩ (.bool true))/\∀ad,g=some ad->w.heap.size<=ad.block):=
    ⟨(KeepsFrom.of_only m o4).trans (KeepsFrom.of_only (s.only o4 (Ne.symm ac)) o5),(KpX.only o4 (.inl (.inl rfl))).trans (KpX.only o5 (.inl (.inr rfl))),x.A,x.cap,q4,k5,am,ao,Ql (Ql hb o4 (by omega)) o5 (by omega),az⟩
   have c4:=m.cellv (i:=0) (v:=.slice none 0 0) rfl;have f4:=m.free 0;have c5:=(s.only o4 (Ne.symm ac)).cellv (i:=0) (v:=.bool false) rfl;have f5:=(s.only o4 (Ne.symm ac)).free 0;clear ak au hπ ab ao hx ap ai aa z hb h3 m s k4 k5 q4 am o4 o5 al ar;gi_wp2_with fail
   obtain⟨e1,e2,g,c',e3,e4⟩:=HF.out;exact⟨e1,e2,rfl,g,⟨c',e3⟩,e4⟩
  ·have a1:((x.to:Int)==(q:Int))=false:=by simp;omega
   have HF:Hid (KeepsFrom w5.heap.size V V/\KpX (λi=>(i=b\/i=d)\/i=w5.heap.size+1) V V/\(Row V B3 3 #[.int .i64 (q:Int)]/\Row V b 22 #[.slice none 0 0]/\Row V d 4 #[.bool false])/\Below w.heap.size w V/\∀y∈a++[x],y.to≠q):=⟨KeepsFrom.refl _ _,KpX.refl _ _,⟨h3,m,s⟩,hb,λy hy=>by
    rcases LG.1 hy with hy|hy
    ·exact z y hy
    ·simp at hy;subst hy;exact ak⟩
   clear ak hx ap ai aa z hb h3 m s al ar;gi_wp2_with fail
   exact HF.out
 case stop=>
  rintro D c a V hD _ ⟨rfl,g,c',h1,h2,h3,m,s,h6⟩ hK;have HF:Hid (Row (V.putObj D (.deferred none)) b 22 #[.slice g π.length c']/\Row (V.putObj D (.deferred none)) d 4 #[.bool true]/\Rd (V.putObj D (.deferred none)) g (Qj π)/\Below w.heap.size w (V.putObj D (.deferred none))):=⟨h1.abide (p:=λ_=>True) (grownBy_putObj' _ _ _) (λr e=>by cases e;exact .inr ⟨trivial,_,hK,rfl⟩),h2.abide (p:=λ_=>True) (grownBy_putObj' _ _ _) (λr e=>by cases e;exact .inr ⟨trivial,_,hK,rfl⟩),h3.grown (grownBy_putObj' _ _ _) (λr e=>by cases e;exact⟨_,hK,rfl⟩),s.grown (grownBy_putObj' _ _ _) s.size (λk e=>by cases e;omega)⟩;have HK:=Lv hK;have H4:=Lv m;have H6:=Lv h6;clear hK h1 h2 h3 m s h6 hD;gi_wp2_with fail
  refine⟨by simp,.inl ⟨_,_,rfl,run_takeDeferred HK.out,?_⟩⟩;refine⟨_,QN Tryz.results258 _ _ ⟨b,0,none⟩ ⟨d,0,none⟩ (.slice g π.length c') (.bool true) rfl rfl ?_ ?_,⟨g,c',rfl,HF.out.2.2.1,H4.out,HF.out.2.2.2,H6.out⟩⟩
  ·have c:=HF.out.1.cellv (i:=0) (v:=.slice g π.length c') rfl;simp[loadVar,go_sem,c]
  ·have c:=HF.out.2.1.cellv (i:=0) (v:=.bool true) rfl;simp[loadVar,go_sem,c]
 case done=>
  rintro D xs V hD a2 ⟨_,_,z⟩ hK;exfalso;have h1:=Hq.out;rw[<-a2,LR]at h1;obtain⟨x,hx,he⟩:=Option.map_eq_some_iff.1 h1;exact z x (Li hx) (by injection he)
end Go.Proofs.YtgnmkiafeplbpaaGreatDoor
namespace Go.Proofs.YtgnmkiafeplbpaaGreatDoor
open Go.RowKit
section
variable {P:Program} {ops:Array Oper} {Q:Exit->Act->World->Prop} {l:Nat}
theorem Akx{o:Oper}(hnd:∀c,o.op≠.defer c){a:Act}{w:World}{K K':Act->World->Prop}(h:∀a w,K a w->K' a w)(hh:o.wp P a w K Q):o.wpIn (Fence.wide.inRound l) 0 P a w K' Q:=by
 unfold Oper.wpIn;refine⟨λ_ _=>trivial,?_⟩;rw[Oper.semAt_plain _ _ _ hnd];unfold Oper.wp at hh;generalize (execOp a.eval o).run P w=r at*;cases r with
 |ok x g=>
  cases x with
  |value v=>exact h _ _ hh
  |skip=>exact h _ _ hh
  |defer d=>exact h _ _ hh
  |enter f args=>
   refine⟨λe=>by simp[Fence.wide]at e,CallsIn.inRound l (callsIn_wide.2 (Calls.mono (hh:Calls _ _ _ _ _) λe j b=>?_))⟩;cases e with
   |returned v=>exact h _ _ b
   |panicked c=>exact b
   |outgrown=>exact b
  |row rn args=>
   refine⟨λe=>by simp[Fence.wide]at e,λc i _=>?_⟩;obtain⟨v,g,r,s⟩:=(hh:Rows _ _ _ _ _) c i;exact⟨v,g,h _ _ r,stepsIn_wide.2 s⟩
  |_=>exact(hh:False).elim
 |halt x g=>cases x<;>first|exact hh|exact(hh:False).elim
def Ends (Q:Exit->Act->World->Prop):Exit->Act->World->Prop
 | .normal,a,w=>Q .normal a w
 |_,_,_=>False
theorem Ends.imp:∀(e:Exit) (a:Act) (w:World),Ends Q e a w->Q e a w:=λe a w h=>by cases e<;>first|exact h|exact(h:False).elim
theorem JW{a:Act}{w:World}(h:Q .normal a w):Ends Q .normal a w:=h
theorem Ajg:¬LetsOut (Ends Q):=λ⟨_,_,h⟩=>h
def Yg (ops:Array Oper):Bool:=ops.all λo=>match o.op with| .defer _=>false|_=>true
theorem Af2{i:Nat}{o:Oper}(h:Yg ops=true)(ho:ops[i]? =some o):∀c,o.op≠.defer c:=λc hc=>by
 obtain⟨a,e⟩:=Lt.1 ho;have:=(Array.all_eq_true.1 h) i a;rw[e,hc]at this;cases this
theorem Agn (h:Yg ops=true){i:Nat}{a:Act}{w:World}{K K':Act->World->Prop}(hK:∀a w,K a w->K' a w)(hh:wpOp P ops (Ends Q) i K a w):wpOpIn (Fence.wide.inRound l) 0 P ops (Ends Q) i K' a w:=by
 unfold wpOp at hh;unfold wpOpIn;cases ho:ops[i]? with
 |none=>simp only[ho]at hh|-;exact hK _ _ hh
 |some o=>
  simp only[ho]at hh|-;by_cases b:Region.wanted o (yielded ops a.tmps)=true
  ·rw[if_pos b];rw[if_pos b]at hh;rcases hh with hh|⟨_,hh⟩
   ·exact Akx (Af2 h ho) hK hh
   ·exact absurd hh Ajg
  ·rw[if_neg b];rw[if_neg b]at hh;exact⟨λ_ _=>trivial,hK _ _ hh⟩
theorem EO{md:Region.Mode}(h:Yg ops=true):∀(fuel:Nat) (listed:Array Bool) (a:Act) (w:World),wpAny P md ops (Ends Q) fuel listed a w->wpAnyIn (Fence.wide.inRound l) 0 P md ops (Ends Q) fuel listed a w
 |0,_,_,_,hh=>hh
 |fuel+1,listed,a,w,hh=>⟨hh.1,λi hi=>Agn h (λa w k=>EO h fuel _ a w k) (hh.2 i hi)⟩
theorem YV{id:Nat}{a:Act}{w:World}(hm:P.follows .mixedOrders=true)(hd:Yg ops=true)(h:wpAny P .any ops (Ends Q) ops.size (Array.replicate ops.size false) a w.drew):(Code.region id ops true).wpIn (Fence.wide.inRound l) 0 P Q a w:=
 wpIn_mono (wpIn_region_any hm (EO hd _ _ _ _ h)) Ends.imp
end
theorem Vk{P:Program}{r:Nat}{id:Nat}{Q:Exit->Act->World->Prop}{a:Act}{w:World}{l:List Oper}(S:World->Prop)(n:Nat)(hm:P.follows .mixedOrders=true)(hd:Yg l.toArray=true)(hB:Region.lexTailB .any l.toArray n=true)(hS:S w.drew)
 (h:ZO P l.toArray S (λa'=>∀W,S W->wpList P l.toArray (Ends Q) (l.drop n) a' W) (l.take n) a):(Code.region id l.toArray true).wpIn (Fence.wide.inRound r) 0 P Q a w:=by
 simp only[Region.lexTailB,LK,decide_eq_true_eq]at hB;obtain⟨⟨⟨⟨i,s⟩,y⟩,v⟩,e⟩:=hB;have x:n<l.length:=by simpa using s
 have b:(l.take n).length=n:=by simp;omega
 have d:(l.drop n).length=l.toArray.size-n:=by simp
 have k:HeadInv .any l.toArray n (Array.replicate l.toArray.size false):=
  ⟨by simp,λj oj _ q=>(by rw[getD_replicate_false]at q;cases q),λt _ z=>getD_in (by simpa using z) (getD_replicate_false _ _)⟩
 have H:=Y3 (md:=.any) (g:=l.toArray.size-n) i y v s (l.take n) 0 _ a (λj p=>by
  have m:j<n:=by rw[b]at p;exact p
  simp[m]) (by simpa using b) k (by rw[b];exact e) h
 refine YV hm hd ?_
 have:=Xf (Q':=Ends Q) (g:=l.toArray.size-n) (λc a' W o u=>by
  have:=wpAny_of_seq (md:=.any) (Q':=Ends Q) (l.drop n) n c a' W (λj=>by simp[Ni]) (by rw[d];exact o.1) (o.2 W u)
  rwa[d]at this) _ _ _ _ hS H
 rw[b,show n+(l.toArray.size-n)=l.toArray.size by omega]at this;exact this
mutual
def Xg:Tr->Int
 | .node _ ks=>depK ks+1
def depK:List Tr->Int
 |[]=>0
 |t::ts=>max (Xg t) (depK ts)
end
theorem EZ:∀ks:List Tr,0<=depK ks
 |[]=>by rw[depK];omega
 |t::ts=>by rw[depK];have:=EZ ts;omega
theorem Ab7 (t:Tr):∀a:List Tr,depK (a++[t])=max (depK a) (Xg t)
 |[]=>by
  have h1:0<=Xg t:=by cases t with|node x ks=>rw[Xg];have:=EZ ks;omega
  have h2:depK []=0:=by rw[depK]
  rw[Lu,h2]
  show depK (t::[])=_
  rw[depK.eq_2,h2];omega
 |u::a=>by rw[Lk,depK,depK,Ab7 t a];omega
mutual
theorem Agy:∀t:Tr,Xg t<=(t.size:Int)
 | .node x ks=>by
  have:=Agx ks
  have h2:(Tr.node x ks).size=(QM ks).length+1:=by rw[Tr.size,Tr.flat,Le]
  rw[Xg,h2];omega
theorem Agx:∀ks:List Tr,depK ks<=((QM ks).length:Int)
 |[]=>by simp[depK,QM]
 |t::ts=>by
  have:=Agy t
  have:=Agx ts
  have h2:(QM (t::ts)).length=t.size+(QM ts).length:=by rw[QM,La];rfl
  rw[depK,h2];omega
end
end Go.Proofs.YtgnmkiafeplbpaaGreatDoor
namespace Go.Proofs.YtgnmkiafeplbpaaGreatDoor
open Go.RowKit Go.Deep
attribute [local go_sem] Oper.semAt_some
structure KidsC (A:Option Addr)(cap:Nat)(l:List Nd)(X:Nat->Prop)(ba bl:Nat)(q:Nat)(w:World):Prop where
 hr:Rd w A (l.flatMap Nd.cells)
 hA:l.flatMap Nd.cells≠[]->∀ad,A=some ad->¬X ad.block
 rl:Row w bl 23 #[.slice A l.length cap]
 ra:Row w ba 3 #[.int .i64 (q:Int)]
 xl:¬X bl
 xa:¬X ba
 hX:∀k,X k->k<w.heap.size
theorem KidsC.kx{A:Option Addr}{cap:Nat}{l:List Nd}{X:Nat->Prop}{ba bl:Nat}{q:Nat}{w w':World}(h:KidsC A cap l X ba bl q w)(k:KpX X w w'):KidsC A cap l X ba bl q w':=
 ⟨k.rd h.hr h.hA,h.hA,k.row h.rl h.xl,k.row h.ra h.xa,h.xl,h.xa,λi hi=>Lg (h.hX i hi) k.size⟩
theorem KidsC.add{A:Option Addr}{cap:Nat}{l:List Nd}{X:Nat->Prop}{ba bl:Nat}{q:Nat}{w W:World}{lb:Nat}(h:KidsC A cap l X ba bl q w)(b:Below w.heap.size w W)(h1:w.heap.size<=lb)(h2:lb<W.heap.size):KidsC A cap l (λi=>X i\/i=lb) ba bl q W:=by
 have d:∀k,k<w.heap.size->¬X k->¬(X k\/k=lb):=λk a j h=>by
  rcases h with h|h
  ·exact j h
  ·omega
 exact⟨h.hr.go b,λc g e=>d _ (X3 h.hr c e) (h.hA c g e),h.rl.below b h.rl.lt,h.ra.below b h.ra.lt,d _ h.rl.lt h.xl,d _ h.ra.lt h.xa,λk a=>by
  rcases a with a|a
  ·exact Lg (h.hX k a) b.size
  ·omega⟩
def AkK (full:List Int)(pre:List Int)(x:Int)(_:World):Prop:=∃rest,pre++x::rest=full
theorem EH{l:List Nd}{n j:Nat}{k:Int}(h:j<n):Zb l (n-j) k=k::Zb l (n-(j+1)) (endZ l k):=by
 rw[show n-j=(n-(j+1))+1 by omega,Zb]
theorem Aep (A:Option Addr)(cap:Nat)(l:List Nd)(hl:l.length<=1000)(q:Nat)(t:Tr)(hat:At l q t)(X:Nat->Prop)(ba bl:Nat)(w:World)(hC:KidsC A cap l X ba bl q w):
 Aae Tryz.prog 260 #[.pointer (some ⟨ba,0,none⟩),.pointer (some ⟨bl,0,none⟩)] (λk:Int=>#[.int .i64 k]) (λ_=>False) (λlb=>KpX (λi=>X i\/i=lb)) (AkK (kidsZ l (q:Int))) (λxs=>xs=kidsZ l (q:Int)) (λ_=>True) t.kids.length True w:=by
 intro lb J Jx W y d _ hJ al hY h0;have ac:Below w.heap.size w W:=⟨d.os,d.tape,d.output,d.size,λk hk=>d.block k hk (by simp)⟩;have m:=hC.add ac y.1 y.2;have c:=hat.fits.arity
 have ae:kidsZ l (q:Int)=Zb l t.kids.length (q+1):=by
  unfold kidsZ;rw[hat.endZ,if_neg (by omega),L0,hat.root,Nx,c,L0]
 have hx:=hat.root;clear hC y ac d w;rw[ae]at hY|-;obtain⟨n,hn⟩:∃n,n=t.kids.length:=⟨_,rfl⟩;rw[<-hn]at hY c|-;obtain⟨x,ag⟩:∃x,x=t.root:=⟨_,rfl⟩;rw[<-ag]at c hx;clear ae hn ag hat t;have s:∀a k W1,J a W1->AkK (Zb l n (q+1)) a k W1->a.length<n->YieldAt Fence.wide 0 Tryz.prog lb #[.int .i64 k] W1 λe z=>(e=.returned (.bool true)/\J (a++[k]) z/\KpX (λi=>X i\/i=lb) W1 z)\/(e=.returned (.bool false)/\Jx (a++[k]) z/\KpX (λi=>X i\/i=lb) W1 z):=hY;clear hY;generalize (λi=>X i\/i=lb)=X1 at m s;clear X;obtain⟨X,rfl⟩:∃X,X=X1:=⟨_,rfl⟩;obtain⟨ad,am,hc⟩:=JG m.hr hx;have Hc:=Lv hc;have Hl:=Lv hl;have HC:=Lv m;have HJ:=Lv hJ;have HY:=Lv s;have ar:(q:Int)<(l.length:Int):=by have:=(Lf.1 hx).1;omega
 have hb:=XM x;rw[c]at hb;clear hc hx hJ al s m hl;subst am;refine callsIn_of_wp Tryz.func260 rfl trivial ?_ rfl;simp only[Tryz.ntmps260,Ly,Le,Ll,Nat.reduceAdd,Nat.reduceSub,Ln,Lp,Lz,LD,Lu,Lk];have c1:=HC.out.rl.cellv (i:=0) (v:=.slice (some ad) l.length cap) rfl;have c2:=HC.out.ra.cellv (i:=0) (v:=.int .i64 (q:Int)) rfl;gi_wp2_with (refine ZW rfl 52 _ rfl (ad.add (q*2)) rfl x.cells _ Hc.out Tryz.underlying52 rfl (by kernel_rfl) ?_);refine⟨trivial,rfl,(callsIn_wide.2 (XN x W)).mono ?_⟩;rintro e w2 ⟨rfl,b2⟩;have ai:=Lv (HC.out.kx (KpX.of_below b2));have h0:=QI HJ.out h0 b2;clear b2 c1 c2 Hc HC;rw[c];clear c;gi_wp2;gi_loopw [4,12] (λkk i wr=>∃(j:Nat) (k:Int) (a:List Int),i=.int .i64 (j:Int)/\kk=.int .i64 k/\j<=n/\Hid (a++Zb l (n-j) k=Zb l n (q+1))/\Hid (a.length=j)/\Hid (KpX X w2 wr)/\J a wr) (λ_ i _=>n-(intOf i).toNat)
 case atStart=>exact⟨0,_,[],by simp,rfl,Nat.zero_le _,Lv (by
  have hw:wrap64 ((q:Int)+1)=(q:Int)+1:=by have:=Hl.out;unfold wrap64;omega
  simp[hw]),Lv rfl,Lv (KpX.refl _ _),h0⟩
 case round=>
  obtain⟨j,k,a,rfl,rfl,aq,b,h,aa,u⟩:=hrel;clear h0;by_cases o:j<n
  ·have af:AkK (Zb l n (q+1)) a k wr:=⟨_,by rw[<-b.out,EH o]⟩;obtain⟨fn,ap,ah,ao,hy,hR⟩:=HY.out _ k _ u af (by have:=h.out;omega);have HR:=Lv hR;clear hR u af;gi_wp2;refine⟨rfl,HR.out.mono ?_⟩;rintro e z (⟨rfl,u,hk⟩|⟨rfl,an,hk⟩);rotate_left
   ·clear hy HR;gi_wp2;refine bodyPost_ret (results_none rfl _ _ _) rfl ?_;exact⟨⟨_,rfl⟩,.inr ⟨_,trivial,an⟩⟩
   have g:=Lv (aa.out.trans hk);have p:=Lv (ai.out.kx g.out);have c1:=p.out.rl.cellv (i:=0) (v:=.slice (some ad) l.length cap) rfl;clear hy HR hk;gi_wp2;refine⟨trivial,rfl,(callsIn_wide.2 (Xp (some ad) cap l k z p.out.hr Hl.out)).mono ?_⟩;rintro e w3 ⟨rfl,b3⟩;have u:=QI HJ.out u b3;have ab:=Lv (g.out.trans (KpX.of_below b3));have ak:Hid ((a++[k])++Zb l (n-(j+1)) (endZ l k)=Zb l n (q+1)):=by show _=_;rw[<-b.out,EH o];simp
   have aj:Hid ((a++[k]).length=j+1):=by show _=_;rw[La,h.out];rfl
   clear b3 c1 aa g b h p;gi_wp2;go_roundw
   case rel=>exact⟨j+1,_,_,by go_num,rfl,by omega,ak,aj,ab,u⟩
   case measure=>simp[intOf];omega
  ·obtain rfl:j=n:=by omega
   gi_wp2;go_end0
   refine⟨⟨_,rfl⟩,.inl ⟨_,?_,u⟩⟩;have:=b.out;rw[Nat.sub_self]at this;rw[<-this];simp[Zb]
theorem Ahx (A:Option Addr)(cap:Nat)(l:List Nd)(hl:l.length<=1000):∀(n:Nat) (t:Tr) (q:Nat),t.size<=n->At l q t->∀w,Rd w A (l.flatMap Nd.cells)->
 Calls Tryz.prog 200 #[.slice A l.length cap,.int .i64 (q:Int)] w λe w'=>e=.returned (.int .i64 (Xg t))/\Below w.heap.size w w':=by
 intro n
 induction n with
 |zero=>intro t q hn;have:=t.size_eq;omega
 |succ n ih=>
 intro t q hn ac w hr;have ai:=Lv ih;have He:=Lv (λW h=>Xp A cap l (q:Int) W h hl);rw[ac.endZ]at He;have Hr:=Lv hr;have Hl:=Lv hl;have y:=Lv ac;have Hn:=Lv hn;have ax:q+t.size<=l.length:=ac.le;have a4:=Agy t;have aw:((q+t.size:Nat):Int)<=1000:=by omega
 obtain⟨Q,hQ⟩:∃Q,Q=q+t.size:=⟨_,rfl⟩;rw[<-hQ]at He aw;have a0:¬((Q:Int)<0):=by omega
 clear ih hl hr ac hn hQ ax;refine(callsIn_wide (n:=0)).1 ?_;refine callsIn_of_wp_marks Tryz.func200 rfl trivial ?_;simp only[Tryz.ntmps200,Ly,Le,Ll,Nat.reduceAdd,Nat.reduceSub,Ln,Lp,Lz,LD,Lu,Lk];gi_wp2_with fail
 obtain⟨LB,ah⟩:∃B,B=w.heap.size:=⟨_,rfl⟩;obtain⟨w1,ae⟩:∃w1,w1=w.alloc (.cells #[.slice A l.length cap] 23):=⟨_,rfl⟩;have u:Row w1 LB 23 #[.slice A l.length cap]:=by rw[ae,ah];exact Row.new _ _ _
 have s:Below w.heap.size w w1:=by rw[ae];exact(Below.refl _ _).alloc (Nat.le_refl _) _
 rw[<-ae, <-ah];have gL:w.heap.size<=LB:=by omega
 clear ae ah;refine⟨trivial,rfl,(callsIn_wide.2 (He.out w1 (Hr.out.go s))).mono ?_⟩;rintro e w2 ⟨rfl,b2⟩;replace u:=u.below b2 u.lt;replace s:=s.trans (b2.mono s.size);clear b2 He;have cL:(w2.alloc (.cells #[.int .i64 0] 3)).cell? ⟨LB,0,none⟩=some (.slice A l.length cap):=(u.alloc _).cellv (i:=0) rfl;gi_wp2_with fail
 obtain⟨G,hG⟩:∃B,B=w2.heap.size:=⟨_,rfl⟩;obtain⟨w3,af⟩:∃w3,w3=w2.alloc (.cells #[.int .i64 0] 3):=⟨_,rfl⟩;have rG:Row w3 G 3 #[.int .i64 0]:=by rw[af,hG];exact Row.new _ _ _
 have b3:Below w2.heap.size w2 w3:=by rw[af];exact(Below.refl _ _).alloc (Nat.le_refl _) _
 rw[<-af, <-hG];have az:LB<G:=by have:=u.lt;omega
 clear cL;replace u:=u.below b3 u.lt;replace s:=s.trans (b3.mono s.size);clear af hG b3;refine⟨trivial,rfl,(callsIn_wide.2 (AaP A cap l (q:Int) w3)).mono ?_⟩;rintro e w4 ⟨bl,ba,rfl,rl,ra,gl,ga,b4⟩;have lG:=rG.lt;replace u:=u.below b4 u.lt;replace rG:=rG.below b4 rG.lt;replace s:=s.trans (b4.mono s.size);have hC:KidsC A cap l (λk=>k=G) ba bl q w4:=⟨Hr.out.go s,λav ad e h=>by have:=X3 Hr.out av e;omega,rl,ra,by omega,by omega,λk hk=>by have:=rG.lt;omega⟩;have ar:=Lv (Aep A cap l Hl.out q t y.out (λk=>k=G) ba bl w4 hC);have Hb:=Lv s;have a5:=s.size;have sG:=rG.lt;clear hC rl ra b4 s gl ga lG;gi_wp2_with fail
 have ap:Hid (Row w4 G 3 #[.int .i64 (depK (t.kids.take ([]:List Int).length))]/\Row w4 LB 23 #[.slice A l.length cap]/\Below w.heap.size w w4):=⟨by simpa[depK]using rG,u,Hb.out⟩;clear u rG Hb
 refine YU (gf:=260) (lb:=#[.pointer (some ⟨ba,0,none⟩),.pointer (some ⟨bl,0,none⟩)]) rfl (enters_of Tryz.func260 (by kernel_rfl) rfl) ar.out (λr h=>h.elim)
  (λh k=>h.trans k) (λV o o' ho hc=>⟨λi p hx hp=>by rw[World.putObj_heap_other (λe=>hx (.inr e))];exact hp,by simp⟩) (World.grownBy.refl _ _) (λ_=>rfl)
  (λa V=>Row V G 3 #[.int .i64 (depK (t.kids.take a.length))]/\Row V LB 23 #[.slice A l.length cap]/\Below w.heap.size w V)
  (λ_ _ _=>False) (.inl trivial) ?hI ?hIx ap.out
  (λa x a' V=>a'={ tmps:=#[.slice A l.length cap,.int .i64 (q:Int),.pointer (some ⟨LB,0,none⟩),undef,.int .i64 0,.pointer (some ⟨G,0,none⟩),.int .i64 x,.slice A l.length cap,.int .i64 (q:Int),.int .i64 (Q:Int),.bool (decide ((Q:Int)<0)),.slice A l.length cap,.int .i64 (q:Int),.func (.func 260) #[] #[.pointer (some ⟨ba,0,none⟩),.pointer (some ⟨bl,0,none⟩)],.int .i64 x,undef,undef,undef,undef,undef,undef,undef],defers:=[] }/\AkK (kidsZ l (q:Int)) a x V) ?hAx ?assign ?body ?done ?stop
 case hI=>
  rintro a V V' row ⟨b,h2,h3⟩ hg hr;refine⟨b.abide hg hr,h2.abide hg hr,h3.grown hg h3.size (λk e=>?_)⟩;rcases hr k e with h|⟨h,_⟩
  ·exact h.elim
  ·omega
 case hIx=>exact λ_ _ _ _ _ h _ _=>h
 case hAx=>exact λa x a' _ _ _ _ h _ _=>h
 case stop=>exact λD c a W _ _ h _=>h.elim
 case assign=>
  rintro l3 a x V K hI hP hK;have HK:=Lv hK;have HI:=Lv hI;have HP:=Lv hP;clear hK hI hP;gi_wp2_with fail
  exact HK.out _ _ (KeepsFrom.refl _ _) (KpX.refl _ _) HI.out ⟨rfl,HP.out⟩
 case body=>
  rintro l3 a x a' V au _ ⟨b,h2,h3⟩ ⟨rfl,ay,aa⟩ ag;obtain⟨k,hk⟩:∃k,t.kids[a.length]? =some k:=⟨_,Ld ag⟩;obtain⟨r,hr⟩:∃r,(Zm (q+1) t.kids)[a.length]? =some r:=AlP hk
  have hx:x=(r:Int):=by
   have e:=y.out.kidsZ;rw[<-aa]at e;have e2:=congrArg (λz=>z[a.length]?) e;simp[hr]at e2;exact e2
  have aj:=(y.out.kids.spot _ _ _ hr hk).1
  have am:k.size<=n:=by
   have h4:=U4 (Li hk);have h5:=t.size_eq;have:=Hn.out;omega
  have al:depK (t.kids.take (a.length+1))=max (depK (t.kids.take a.length)) (Xg k):=by
   rw[L5,hk];exact Ab7 k _
  have g:=Lv (λW h=>ai.out k r am aj W h);have ab:=Lv al;subst hx;obtain⟨m,hm⟩:∃m,m=depK (t.kids.take a.length):=⟨_,rfl⟩;obtain⟨d,hd⟩:∃d,d=Xg k:=⟨_,rfl⟩;rw[<-hm]at b ab;rw[<-hd]at g ab;have a1:=b.lt;obtain⟨S,j⟩:∃S,S=(λW=>Row W G 3 #[.int .i64 m]/\Row W LB 23 #[.slice A l.length cap]/\Rd W A (l.flatMap Nd.cells)/\Below V.heap.size V W):=⟨_,rfl⟩;have a6:St S:=by rw[j];infer_instance
  have T0:Hid (∀W,S W->Row W G 3 #[.int .i64 m]):=by show ∀W,_;rw[j];exact λW h=>h.1
  have T1:Hid (∀W,S W->Row W LB 23 #[.slice A l.length cap]):=by show ∀W,_;rw[j];exact λW h=>h.2.1
  have T2:Hid (∀W,S W->Rd W A (l.flatMap Nd.cells)):=by show ∀W,_;rw[j];exact λW h=>h.2.2.1
  have T3:Hid (∀W,S W->Below V.heap.size V W):=by show ∀W,_;rw[j];exact λW h=>h.2.2.2
  have hS:S V:=by rw[j];exact⟨b,h2,Hr.out.go h3,Below.refl _ _⟩
  have H3:=Lv h3;have s3:=h3.size;clear j b h2 h3 aa hk hr aj am al hm hd ag au ai Hr;gi_wp2_with fail
  refine Vk S 5 (by kernel_rfl) (by kernel_rfl) (by kernel_rfl) (St.drew hS) ?_;clear hS;simp only[LY,List.take_zero,Nk,List.drop_zero];(refine Qe rfl ?_ (λW hW=>?_) ?_;rotate_left;(focus(have c:=(T0.out W hW).cellv (i:=0) rfl;go_simp;exact rfl));simp only[Act.put,Qa,Qb,Qc]);(refine Qe rfl ?_ (λW hW=>?_) ?_;rotate_left;(focus(have c:=(T1.out W hW).cellv (i:=0) rfl;go_simp;exact rfl));simp only[Act.put,Qa,Qb,Qc]);(refine Qe rfl ?_ (λW hW=>?_) ?_;rotate_left;(focus(go_simp;exact rfl));simp only[Act.put,Qa,Qb,Qc]);(refine QA rfl 200 _ (λW=>by(go_simp;try rfl)) (.int .i64 d) (λW hW=>g.out W (T2.out W hW)) ?_;simp only[Act.put,Qa,Qb,Qc])
  (refine Qe rfl ?_ (λW hW=>?_) ?_;rotate_left;(focus(go_simp;exact rfl));simp only[Act.put,Qa,Qb,Qc]);refine QE λW hS=>?_
  have b:=T0.out W hS;have b4:=T3.out W hS;have o4:=Qu W G 0 (.int .i64 (max m d))
  have HF:Hid (KeepsFrom w4.heap.size V (W.setCell ⟨G,0,none⟩ (.int .i64 (max m d)))/\KpX (λi=>i=G\/i=w4.heap.size+1) V (W.setCell ⟨G,0,none⟩ (.int .i64 (max m d)))/\Row (W.setCell ⟨G,0,none⟩ (.int .i64 (max m d))) G 3 #[.int .i64 (depK (t.kids.take (a++[(r:Int)]).length))]/\Row (W.setCell ⟨G,0,none⟩ (.int .i64 (max m d))) LB 23 #[.slice A l.length cap]/\Below w.heap.size w (W.setCell ⟨G,0,none⟩ (.int .i64 (max m d)))):=
   ⟨(KpX.of_below b4).keeps (X:=λ_=>False) (λ_ h=>h.elim) |>.trans (KeepsFrom.of_only b o4),((KpX.of_below b4).more (λ_ h=>(h:False).elim)).trans (KpX.only o4 (.inl rfl)),by rw[La];simp only[Le,Ll,LS];rw[ab.out];exact b.set 0 _,(T1.out W hS).only o4 (by omega),Ql (H3.out.trans (b4.mono s3)) o4 (by omega)⟩
  have c:=b.cellv (i:=0) (v:=.int .i64 m) rfl;have f:=b.free 0;clear b b4 o4 T0 T1 T2 T3 g ab hS;go_wp2_with fail
  all_goals
   refine JW ?_
   first|rw[show max m d=d by omega]at HF|rw[show max m d=m by omega]at HF|skip
   gi_wp2_with fail
   exact HF.out
 case done=>
  rintro D ys V hD ao ⟨b,h2,h3⟩ hK;have an:ys.length=t.kids.length:=by rw[ao,y.out.kidsZ,L7,X4]
  rw[an,LO]at b;have ak:Xg t=depK t.kids+1:=by cases t;rfl
  have hc:=b.cellv (i:=0) (v:=.int .i64 (depK t.kids)) rfl;have HK:=Lv hK;have H3:=Lv h3;have aq:=Lv ak;have a3:depK t.kids<=1000:=by have:=y.out.le;have:=Hl.out;omega
  have a2:=EZ t.kids;clear hK b h2 h3 ao an ak;gi_wp2;refine⟨by simp,.inl ⟨_,_,rfl,run_takeDeferred HK.out,?_⟩⟩;refine⟨_,results_tmp rfl _ _ _,?_,H3.out.grown (grownBy_putObj' _ _ _) H3.out.size (λk e=>by cases e;omega)⟩;rw[aq.out];rfl
end Go.Proofs.YtgnmkiafeplbpaaGreatDoor
namespace Go.Proofs.YtgnmkiafeplbpaaGreatDoor
open Go.RowKit
structure Whole (l:List Nd)(t:Tr):Prop where
 hat:At l 0 t
 size:t.size=l.length
theorem Whole.of{l:List Nd}(h:endZ l 0=(l.length:Int)):∃t,Whole l t:=by
 obtain⟨t,b,_⟩:=Aai (l:=l) (a:=0) (by omega);have c:=b.endZ;have d:endZ l 0=((0+t.size:Nat):Int):=by simpa using c
 exact⟨t,b,by omega⟩
theorem Whole.endZ{l:List Nd}{t:Tr}(h:Whole l t):endZ l 0=(l.length:Int):=by
 have a:=h.hat.endZ;rw[h.size]at a;simpa using a
theorem Whole.uniq{l:List Nd}{a b:Tr}(h:Whole l a)(k:Whole l b):a=b:=h.hat.uniq k.hat
theorem Whole.pos{l:List Nd}{t:Tr}(h:Whole l t):0<l.length:=by have:=h.hat.lt;omega
theorem Good.whole{p:PgV}{t:Tr}(h:Good p t):Whole p.body t:=⟨h.hat,h.size⟩
open Classical in
noncomputable def Zs (l:List Nd):Int:=
 if l.length=0 then 10 else if 200<l.length then 4 else if ∃x∈l,Qy x<0 then 11 else if endZ l 0≠(l.length:Int)then 12 else if ∃t,Whole l t/\30<Xg t then 13 else 0
theorem UQ{l:List Nd}(h:l.length=0):Zs l=10:=by unfold Zs;rw[if_pos h]
theorem AdR{l:List Nd}(h:200<l.length):Zs l=4:=by unfold Zs;rw[if_neg (by omega),if_pos h]
theorem AdS{l:List Nd}(h0:¬l.length=0)(h1:¬200<l.length){x:Nd}(hx:x∈l)(h:Qy x<0):Zs l=11:=by unfold Zs;rw[if_neg h0,if_neg h1,if_pos ⟨x,hx,h⟩]
theorem AdT{l:List Nd}(h0:¬l.length=0)(h1:¬200<l.length)(h2:∀x∈l,¬Qy x<0)(h:endZ l 0≠(l.length:Int)):Zs l=12:=by
 unfold Zs;rw[if_neg h0,if_neg h1,if_neg (λ⟨x,hx,hn⟩=>h2 x hx hn),if_pos h]
theorem Aap{l:List Nd}(h1:¬200<l.length)(h2:∀x∈l,¬Qy x<0){t:Tr}(ht:Whole l t):Zs l=if 30<Xg t then 13 else 0:=by
 have b:=ht.pos;unfold Zs;rw[if_neg (by omega),if_neg h1,if_neg (λ⟨x,hx,hn⟩=>h2 x hx hn),if_neg (λh=>h ht.endZ)];by_cases a:30<Xg t
 ·rw[if_pos a,if_pos ⟨t,ht,a⟩]
 ·rw[if_neg a,if_neg (λ⟨u,hu,hn⟩=>a (by rw[ht.uniq hu];exact hn))]
theorem Ab1{l:List Nd}(h:Zs l=0):l.length<=200/\(∀x∈l,¬Qy x<0)/\∃t,Whole l t/\Xg t<=30:=by
 by_cases c:l.length=0
 ·rw[UQ c]at h;cases h
 by_cases b:200<l.length
 ·rw[AdR b]at h;cases h
 by_cases g:∃x∈l,Qy x<0
 ·obtain⟨x,e,d⟩:=g;rw[AdS c b e d]at h;cases h
 have a:∀x∈l,¬Qy x<0:=λx e d=>g ⟨x,e,d⟩
 by_cases i:endZ l 0=(l.length:Int)
 ·obtain⟨t,j⟩:=Whole.of i;rw[Aap b a j]at h;refine⟨by omega,a,t,j,?_⟩;by_cases k:30<Xg t
  ·rw[if_pos k]at h;cases h
  ·omega
 ·rw[AdT c b a i]at h;cases h
open Classical in
noncomputable def QP (p:PgV):Int:=if Zs p.body≠0 then Zs p.body else if KJ p.params p.V≠0 then 14 else if ∃t,Good p t then 0 else 15
theorem Aaq{p:PgV}(h:Zs p.body≠0):QP p=Zs p.body:=by unfold QP;rw[if_pos h]
theorem AdU{p:PgV}(h:Zs p.body=0)(h1:KJ p.params p.V≠0):QP p=14:=by unfold QP;rw[if_neg (by simp[h]),if_pos h1]
theorem Aar{p:PgV}(h:Zs p.body=0)(h1:KJ p.params p.V=0)(h2:∀t,¬Good p t):QP p=15:=by
 unfold QP;rw[if_neg (by simp[h]),if_neg (by simp[h1]),if_neg (λ⟨t,ht⟩=>h2 t ht)]
theorem AdV{p:PgV}(h:Zs p.body=0)(h1:KJ p.params p.V=0){t:Tr}(h2:Good p t):QP p=0:=by
 unfold QP;rw[if_neg (by simp[h]),if_neg (by simp[h1]),if_pos ⟨t,h2⟩]
structure Fine (p:PgV)(t:Tr):Prop where
 good:Good p t
 len:p.body.length<=200
 ar:∀x∈p.body,¬Qy x<0
 dep:Xg t<=30
theorem checkP_ok{p:PgV}:QP p=0<->∃t,Fine p t:=by
 constructor
 ·intro h;by_cases e:Zs p.body=0
  ·by_cases g:KJ p.params p.V=0
   ·by_cases i:∃t,Good p t
    ·obtain⟨t,d⟩:=i;obtain⟨a,b,u,k,c⟩:=Ab1 e;have:t=u:=d.whole.uniq k;exact⟨t,d,a,b,by rw[this];exact c⟩
    ·rw[Aar e g (λt d=>i ⟨t,d⟩)]at h;cases h
   ·rw[AdU e g]at h;cases h
  ·rw[Aaq e]at h;exact absurd h e
 ·rintro⟨t,d⟩;have j:Zs p.body=0:=by rw[Aap (by have:=d.len;omega) d.ar d.good.whole,if_neg (by have:=d.dep;omega)]
  refine AdV j ?_ d.good;unfold KJ;rw[if_pos d.good.vars]
end Go.Proofs.YtgnmkiafeplbpaaGreatDoor
