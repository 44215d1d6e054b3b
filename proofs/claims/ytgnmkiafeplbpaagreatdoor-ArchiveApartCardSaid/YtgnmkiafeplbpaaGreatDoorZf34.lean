/- Lemmas for ArAll. -/
import Derived.Test.YtgnmkiafeplbpaaGreatDoorZf1
import Derived.Test.YtgnmkiafeplbpaaGreatDoorZf33
import Derived.Test.YtgnmkiafeplbpaaGreatDoorZf22
import Derived.Test.YtgnmkiafeplbpaaGreatDoorZf10
set_option linter.unusedVariables false
set_option linter.unusedSimpArgs false
set_option maxRecDepth 100000
set_option maxHeartbeats 16000000
namespace Go.Proofs.YtgnmkiafeplbpaaGreatDoor
open Go.RowKit Go.Deep
attribute [local go_sem] Oper.semAt_some
def ixL (y:PlX):List UInt8:=QC y.x.t.toNat++(QC y.i++QC (ZD y.x))
theorem Adg:∀(a:Nat) (l:List Sec),(plZ a l).flatMap ixL=AaJ a l
 |_,[]=>rfl
 |a,x::l=>by
  rw[plZ,LF,Adg,AaJ]
  unfold ixL
  simp
theorem Als (y:PlX):(ixL y).length<=30:=by
 unfold ixL;have a:=Qz y.x.t.toNat;have b:=Qz y.i;have c:=Qz (ZD y.x);simp only[La];omega
theorem AgG (l:List PlX):(l.flatMap ixL).length<=30*l.length:=by
 induction l with
 |nil=>simp
 |cons y l ih=>
  rw[LF,La,Le];have:=Als y;omega
theorem AjX{a:Nat}{l:List Sec}{pre:List PlX}{y:PlX}(h:pre++[y]=(plZ a l).take (pre.length+1)):∃x,l[pre.length]? =some x/\y=⟨a+(Qq (l.take pre.length)).length,x⟩:=by
 have b:(pre++[y])[pre.length]? =some y:=by simp
 rw[h,Nc (by omega)]at b;have c:=(Lf.1 b).1;rw[Uh]at c;have d:l[pre.length]? =some l[pre.length]:=Ld c;refine⟨_,d,?_⟩;rw[Agc d]at b;injection b with b;exact b.symm
theorem Al0 (w:World):(zeroValue 116).run Tryz.prog w=.ok (.pointer none) w:=by kernel_rfl
theorem WrEff.sk{B g:Nat}{w w':World}{l:List UInt8}(h:WrEff B g w w')(hw:Wr w B g l):SKeep w w':=λi cs r=>by
 obtain⟨_,v,a,_⟩:=hw;exact h.row r (Vq r a (by decide)) (by decide)
theorem WrEff.kp{g:Nat}{w w':World}(f:WrEff g g w w'){X:Nat->Prop}(hX:∀k,¬X k->k<g\/(k≠g/\∃t cs,Row w k t cs/\t≠5)):KpX X w w':=
 ⟨λk o hx ho=>by
  rcases hX k hx with h|⟨h1,t,cs,r,ht⟩
  ·rw[f.block k (Lt.1 ho).1 (by omega) (λ_ h2 _=>by omega)];exact ho
  ·have r2:=f.row r h1 ht
   rw[Row]at r r2
   rw[r2, <-r];exact ho,f.size⟩
theorem AbA{P:Program}{ops:Array Oper}{S:World->Prop}{a:Act}{o:Oper}(hw:Region.wanted o (yielded ops a.tmps)=true)(ty:TypeId)(x:Operand)(ho:o.op=.load ty x)(ad:Addr)(hx:a.eval x=.pointer (some ad))(cs:List Value)(d:TypeDesc)
 (hr:∀W,S W->∀(j:Nat) (v:Value),cs[j]? =some v->W.cell? (ad.add j)=some v) (hu:P.underlying ty=some d) (hd:(match d with| .struct _| .array _ _=>true|_=>false)=true) (hi:(P.info? ty).map (·.size)=some cs.length):YieldsIf P ops S o (.agg cs.toArray) a:=
 Qd hw (λW hW=>by simp only[execOp,ho,hx,Instr.loadAt,Instr.sureAddr,Sem.run_bind,Sem.run_pure,Result.andThen_ok,Ke W ad ty cs d (hr W hW) hu hd hi])
theorem Ads{P:Program}{r:Nat}{id:Nat}{Q:Exit->Act->World->Prop}{a:Act}{w:World}{l:List Oper}{S:World->Prop}(hm:P.follows .mixedOrders=true)(hd:Yg l.toArray=true)(h:wpAnyH P .any l.toArray (Ends Q) S l.toArray.size (Array.replicate l.toArray.size false) a w.drew):(Code.region id l.toArray true).wpIn (Fence.wide.inRound r) 0 P Q a w:=
 YV hm hd (wpAny_of_held _ _ _ _ h)
theorem Vp{W:World}{D:Nat}{t:TypeId}{cs:Array Value}(h:Row W D t cs):∀(j:Nat) (v:Value),cs.toList[j]? =some v->W.cell? ((⟨D,0,none⟩:Addr).add j)=some v:=
 Row.from_ (cur:=cs) h 0 (λj v hj=>by rw[LS, <-N2];exact hj)
theorem AhS (A:Option Addr)(cap:Nat)(l:List Sec)(hl:SecOk l)(h16:l.length<=16)(w:World)(hr:Rd w A (Zy l)):
 Calls Tryz.prog 154 #[.slice A l.length cap] w λe w'=>e=.returned (.string ⟨(ZS l).toArray⟩)/\Below w.heap.size w w':=by
 have Hr:=Lv hr;have Hl:=Lv hl;have bp:=Lv h16;obtain⟨n,ai⟩:∃n,n=l.length:=⟨_,rfl⟩;obtain⟨z,hz⟩:∃z,z=ZS l:=⟨_,rfl⟩;have Hz:Hid (z=QC n++AaJ 7 l):=by show _=_;rw[hz,ai];rfl
 have a0:=Lv ai;rw[<-ai, <-hz];have bn:(n:Int)<=16:=by omega
 have bo:IntKind.u64.wrap (n:Int)=(n:Int):=by rw[IntKind.wrap_u64];omega
 clear hr hl h16 ai hz;refine(callsIn_wide (n:=0)).1 ?_;refine callsIn_of_wp_marks Tryz.func154 rfl trivial ?_;simp only[Tryz.ntmps154,Ly,Le,Ll,Nat.reduceAdd,Nat.reduceSub,Ln,Lp,Lz,LD,Lu,Lk];refine wpIn_wide.2 ?_;go_wp2_with fail
 refine(JS w).mono ?_;rintro e w1 ⟨g,rfl,h1,b1,hg⟩;have Hg:=Lv hg;clear hg;go_wp2_with fail
 refine(Z2 g g [] n (by simp) (by omega) w1 h1).mono ?_;rintro e w2 ⟨rfl,u,f2⟩;have af:Hid (Below w.heap.size w w2):=b1.trans ((f2.below (Nat.le_refl _) (by have:=h1.lt;omega)).mono Hg.out);clear b1 f2 h1;go_wp2_with (refine Qs _ rfl ?_)
 refine Stop.to ?_;refine Qi rfl 116 rfl _ _ (Al0 _) rfl ?_;intro P w3 hP rP bP;have bf:Hid (g<P/\w.heap.size<=P):=⟨Lg u.lt hP,Lj af.out.size hP⟩;go_wp2_with (refine Qk _ _ _ rfl ?_)
 refine Stop.to ?_;refine Qt rfl 116 _ _ rfl P 0 rfl _ rfl [.pointer (some ⟨g,0,none⟩)] rfl 116 #[.pointer none] #[.pointer (some ⟨g,0,none⟩)] rP (by kernel_rfl) (by simp) (by simp[Value.oneCell']) rfl ?_;intro w4 r4 o4;have b4:Below w2.heap.size w2 w4:=(bP.mono hP).trans (o4.below hP);have h4:=u.go b4;have al:Hid (Below w.heap.size w w4):=af.out.trans (b4.mono af.out.size);clear rP bP hP o4 b4 u af;go_wp2_with fail
 refine(Vc A n cap w4).mono ?_;rintro e w5 ⟨bt,rfl,r5,br,b5⟩;have h5:=h4.go b5;have R4:=r4.below b5 r4.lt;have ag:Hid (Below w.heap.size w w5):=al.out.trans (b5.mono al.out.size);have bq:=r4.lt;have bs:=h4.lt;clear h4 r4 b5 al;go_wp2_with fail
 obtain⟨X,a6⟩:∃X:Nat->Prop,X=(λk=>g<=k/\k≠P/\k≠bt):=⟨_,rfl⟩;have HX:Hid (∀k,X k<->(g<=k/\k≠P/\k≠bt)):=λk=>by rw[a6]
 have hC:SecsC A cap l X bt w5:=⟨Hr.out.go ag.out,λaw ad e h=>by have h1:=X3 Hr.out aw e;have u:=((HX.out _).1 h).1;have:=Hg.out;omega,by rw[<-a0.out];exact r5,λh=>((HX.out _).1 h).2.2 rfl⟩;have am:=Lv (Vb A cap l Hl.out X bt w5 hC);rw[<-a0.out]at am;have az:Hid (Wr w5 g g (QC n++([]:List PlX).flatMap ixL)/\Row w5 P 116 #[.pointer (some ⟨g,0,none⟩)]/\Row w5 bt 43 #[.slice A n cap]/\Below w.heap.size w w5):=⟨by simpa using h5,R4,r5,ag.out⟩;have a7:Hid (P<bt/\g<bt):=⟨by omega,by omega⟩;clear hC h5 R4 r5 a6;refine(wpIn_wide (n:=0)).1 ?_
 refine YU (gf:=210) (lb:=#[.pointer (some ⟨bt,0,none⟩)]) rfl (enters_of Tryz.func210 (by kernel_rfl) rfl) am.out (λr h=>h.elim)
  (λh k=>⟨h.1.trans k.1,h.2.trans k.2⟩) (λV o o' ho hc=>⟨⟨λi p hx hp=>by rw[World.putObj_heap_other (λe=>hx (.inr e))];exact hp,by simp⟩,λi cs r=>by
   have aw:i≠w5.heap.size+1:=λe=>by
    subst e
    have h9:V.heap[w5.heap.size+1]? =some (.cells cs 48 (0,0)):=r
    rw[ho]at h9
    injection h9 with h9
    rw[h9]at hc
    cases hc
   exact(World.putObj_heap_other aw).trans r⟩) (World.grownBy.refl _ _) (λ_=>rfl)
  (λj V=>Wr V g g (QC n++j.flatMap ixL)/\Row V P 116 #[.pointer (some ⟨g,0,none⟩)]/\Row V bt 43 #[.slice A n cap]/\Below w.heap.size w V)
  (λ_ _ _=>False) (.inl trivial) ?hI ?hIx az.out
  (λj y a' V=>∃D,a'={ tmps:=#[.slice A n cap,undef,.string ⟨#[]⟩,.pointer (some ⟨P,0,none⟩),.int .i64 (y.i:Int),.pointer (some ⟨D,0,none⟩),.pointer (some ⟨g,0,none⟩),.slice A n cap,.int .i64 (n:Int),.int .u64 (n:Int),.pointer (some ⟨g,0,none⟩),.slice A n cap,.func (.func 210) #[] #[.pointer (some ⟨bt,0,none⟩)],.int .i64 (y.i:Int),.agg (QO y.x),undef,undef,undef,undef,undef,undef,undef,undef,undef,undef,undef,undef,undef,undef],defers:=[] }/\Row V D 48 (QO y.x)/\j++[y]=(plZ 7 l).take (j.length+1)) ?hAx ?assign ?body ?done ?stop
 case hI=>
  rintro j V V' row ⟨⟨hB,v,q1,q2⟩,u,h3,h4⟩ hg hr
  have ak:∀r,row=some r->w5.heap.size<=r/\v.ownBlock≠some r:=λr e=>by
   rcases hr r e with h|⟨h,o,ho,hc⟩
   ·exact h.elim
   ·exact⟨h,JC q2 ho hc⟩
  refine⟨⟨hB,v,q1.abide hg hr,q2.kept hg ?_⟩,u.abide hg hr,h3.abide hg hr,h4.grown hg h4.size (λk e=>by have:=(ak k e).1;have:=ag.out.size;omega)⟩;cases row with
  |none=>cases v.ownBlock<;>simp
  |some r=>exact .inr (ak r rfl).2
 case hIx=>exact λ_ _ _ _ _ h _ _=>h
 case hAx=>
  rintro j x a' _ V V' row ⟨D,h1,u,h3⟩ hg hr;exact⟨D,h1,Row.abide u hg hr,h3⟩
 case stop=>exact λD c j W _ _ h _=>h.elim
 case assign=>
  rintro l3 j y V K ⟨h1,u,h3,h4⟩ hP hK;have HK:=Lv hK;have HP:=Lv hP;clear hK hP;unfold PlX.enc;gi_wp2_with (refine VO _ _ _ rfl ?_);refine Stop.to ?_;obtain⟨D,hD⟩:∃D,D=V.heap.size:=⟨_,rfl⟩;obtain⟨V1,ah⟩:∃V1,V1=V.alloc (.cells #[.int .i64 0,.string ⟨#[]⟩] 48):=⟨_,rfl⟩;have rD:Row V1 D 48 #[.int .i64 0,.string ⟨#[]⟩]:=by rw[ah,hD];exact Row.new _ _ _
  have b1:Below V.heap.size V V1:=by rw[ah];exact(Below.refl _ _).alloc (Nat.le_refl _) _
  rw[<-ah, <-hD];have a4:V.heap.size<=D:=LI hD.symm;clear ah hD;refine Zz rfl 48 _ _ rfl D (QO y.x) rfl rfl 48 _ rD (by kernel_rfl) rfl (by simp[QO,Value.oneCell']) ?_;have ay:=rD.setRow (QO y.x);have o2:=ZY V1 D (QO y.x);have b2:Below V.heap.size V (V1.setRow D (QO y.x)):=Ql b1 o2 a4;generalize V1.setRow D (QO y.x)=V2 at ay o2 b2|-;have HF:=Lv (And.intro ((KpX.of_below b2).keeps (b:=w5.heap.size) (X:=λ_=>False) (λ_ h=>h.elim)) (And.intro (show KpX (λi=>X i\/i=w5.heap.size+1) V V2/\SKeep V V2 from⟨KpX.of_below b2,SKeep.below b2⟩) (And.intro (show Wr V2 g g (QC n++j.flatMap ixL)/\Row V2 P 116 #[.pointer (some ⟨g,0,none⟩)]/\Row V2 bt 43 #[.slice A n cap]/\Below w.heap.size w V2 from⟨h1.go b2,u.below b2 u.lt,h3.below b2 h3.lt,h4.trans (b2.mono h4.size)⟩) ay)));clear rD ay b1 o2 b2 a4 h1 u h3 h4;gi_wp2_with fail
  exact HK.out _ _ HF.out.1 HF.out.2.1 HF.out.2.2.1 ⟨D,rfl,HF.out.2.2.2,HP.out⟩
 case body=>
  rintro l3 j y a' V bj _ ⟨h1,u,h3,h4⟩ ⟨D,rfl,aj,ax⟩ bb;obtain⟨x,hx,rfl⟩:=AjX ax;obtain⟨t,d⟩:=x;have ae:=Li hx;have a1:=Lv (λW=>Ul ⟨t,d⟩ W (Hl.out.ty _ ae) (Hl.out.dl _ ae));obtain⟨m,hm⟩:∃m:Nat,t=(m:Int):=⟨t.toNat,by have:=(Hl.out.ty _ ae).1;simp only at this;omega⟩;subst hm;have bu:(m:Int)<=255:=(Hl.out.ty _ ae).2;obtain⟨a,ha⟩:∃a,a=7+(Qq (l.take j.length)).length:=⟨_,rfl⟩;rw[<-ha]at ax|-;obtain⟨q,hq⟩:∃q,q=ZD ⟨(m:Int),d⟩:=⟨_,rfl⟩;have bv:a+q<=1000000007:=by have e1:=Y9 hx;have e2:=J8 l (j.length+1);have e3:=Hl.out.sum;omega
  have be:Hid (ixL ⟨a,⟨(m:Int),d⟩⟩=QC m++(QC a++QC q)):=by show _=_;unfold ixL;rw[hq];simp
  rw[<-hq]at a1;have bk:IntKind.u64.wrap (m:Int)=(m:Int):=by rw[IntKind.wrap_u64];omega
  have bl:IntKind.u64.wrap (a:Int)=(a:Int):=by rw[IntKind.wrap_u64];omega
  have bm:IntKind.u64.wrap (q:Int)=(q:Int):=by rw[IntKind.wrap_u64];omega
  have ac:Hid ((QC n++j.flatMap ixL).length<=600):=by
   show _<=_;have e1:=Qz n;have e2:=AgG j;rw[La];omega
  clear hx ae ha hq bj bb ax;gi_wp2_with fail
  have an:P≠g:=by have:=bf.out.1;omega
  have a3:D≠g:=by obtain⟨_,v9,r9,_⟩:=h1;exact Vq aj r9 (by decide)
  obtain⟨Vd,av⟩:∃Vd,Vd=V.drew:=⟨_,rfl⟩;have bd:Below V.heap.size V Vd:=by rw[av];exact St.drew (S:=λW=>Below V.heap.size V W) (Below.refl _ _)
  obtain⟨S,ao⟩:∃S:World->Prop,S=(λW=>Row W P 116 #[.pointer (some ⟨g,0,none⟩)]/\Row W D 48 (QO ⟨(m:Int),d⟩)):=⟨_,rfl⟩;have T0:Hid (∀W,S W->Row W P 116 #[.pointer (some ⟨g,0,none⟩)]/\Row W D 48 (QO ⟨(m:Int),d⟩)):=λW h=>by rw[ao]at h;exact h
  have TS:Hid (∀W,Row W P 116 #[.pointer (some ⟨g,0,none⟩)]/\Row W D 48 (QO ⟨(m:Int),d⟩)->S W):=λW h=>by rw[ao];exact h
  have bc:St S:=⟨λ{W W'} h b=>TS.out _ ⟨(T0.out _ h).1.below b (T0.out _ h).1.lt,(T0.out _ h).2.below b (T0.out _ h).2.lt⟩⟩;have hS:S Vd:=TS.out _ ⟨u.below bd u.lt,aj.below bd aj.lt⟩;have a5:=h1.go bd;have aa:Hid (∀(A B:World),S A->WrEff g g A B->S B):=λA B h f=>TS.out _ ⟨f.row (T0.out _ h).1 an (by decide),f.row (T0.out _ h).2 a3 (by decide)⟩;clear ao;refine Ads (S:=S) (by kernel_rfl) (by kernel_rfl) ?_;simp only[Ly,Le,Ll,Nat.reduceAdd,Ln,Lp,Lz,Lu,Lk];rw[<-av];clear av;(refine tkH 0 (.pointer (some ⟨g,0,none⟩)) rfl (Qd rfl (λW hW=>by((have c:=(T0.out W hW).1.cellv (i:=0) (v:=.pointer (some ⟨g,0,none⟩)) rfl;go_simp)))) ?_;simp only[Act.put,Qa,Qb,Qc]);(refine tkH 1 (.pointer (some ⟨D,0,none⟩)) rfl (Qd rfl (λW hW=>by(go_simp))) ?_;simp only[Act.put,Qa,Qb,Qc]);(refine tkH 2 (.int .i64 (m:Int)) rfl (Qd rfl (λW hW=>by((have c:=(T0.out W hW).2.cellv (i:=0) (v:=.int .i64 (m:Int)) rfl;go_simp)))) ?_;simp only[Act.put,Qa,Qb,Qc]);(refine tkH 3 (.int .u64 (m:Int)) rfl (Qd rfl (λW hW=>by(go_simp))) ?_;simp only[Act.put,Qa,Qb,Qc]);(refine tkH 5 (.int .i64 (a:Int)) rfl (Qd rfl (λW hW=>by(go_simp))) ?_;simp only[Act.put,Qa,Qb,Qc]);(refine tkH 6 (.int .u64 (a:Int)) rfl (Qd rfl (λW hW=>by(go_simp))) ?_;simp only[Act.put,Qa,Qb,Qc]);(refine tkH 8 _ rfl (AbA rfl 48 _ rfl ⟨D,0,none⟩ rfl (QO ⟨(m:Int),d⟩).toList _ (λW hW=>Vp (T0.out W hW).2) Tryz.underlying48 rfl (by kernel_rfl)) ?_;simp only[Act.put,Qa,Qb,Qc]);(refine wpAnyH_all (rs:=[4]) (by kernel_rfl) (by simp) (λi hi=>?_);obtain rfl:i=4:=by simpa using hi);refine Qg rfl rfl (λK2 s=>?_);refine Qm 88 #[.pointer (some ⟨g,0,none⟩),.int .u64 (m:Int)] (w1:=Vd) (by go_simp) ((Z2 g g _ m (by have:=ac.out;omega) (by omega) Vd a5).mono ?_);rintro e W1 ⟨rfl,k1,f1⟩;refine⟨_,rfl,?_⟩;refine s _ _ ?_;clear s K2;simp only[Act.put,Qa,Qb,Qc];have ap:=aa.out _ _ hS f1;refine⟨ap,?_⟩;clear hS;have a8:=(WrEff.of_below (B:=g) (g:=g) bd).trans f1;have bh:=Qz m;(refine wpAnyH_all (rs:=[7]) (by kernel_rfl) (by simp) (λi hi=>?_);obtain rfl:i=7:=by simpa using hi);refine Qg rfl rfl (λK2 s=>?_);refine Qm 88 #[.pointer (some ⟨g,0,none⟩),.int .u64 (a:Int)] (w1:=W1) (by go_simp) ((Z2 g g _ a (by rw[La];have:=ac.out;omega) (by omega) W1 k1).mono ?_);rintro e W2 ⟨rfl,k2,f2⟩;refine⟨_,rfl,?_⟩;refine s _ _ ?_;clear s K2;simp only[Act.put,Qa,Qb,Qc];have aq:=aa.out _ _ ap f2;refine⟨aq,?_⟩;clear ap;have a9:=a8.trans f2;have bi:=Qz a;(refine wpAnyH_all (rs:=[9]) (by kernel_rfl) (by simp) (λi hi=>?_);obtain rfl:i=9:=by simpa using hi);refine Qg rfl rfl (λK2 s=>?_);refine Qm 92 #[.agg (QO ⟨(m:Int),d⟩)] (w1:=W2) (by go_simp;try rfl) ((a1.out W2).mono ?_)
  rintro e W3 ⟨rfl,b3⟩;refine⟨_,rfl,?_⟩;refine s _ _ ?_;clear s K2;simp only[Act.put,Qa,Qb,Qc];have ar:=bc.go aq b3;refine⟨ar,?_⟩;clear aq;have ba:=a9.trans (WrEff.of_below b3);have k3:=k2.go b3;(refine tkH 10 (.int .u64 (q:Int)) rfl (Qd rfl (λW hW=>by(go_simp))) ?_;simp only[Act.put,Qa,Qb,Qc]);(refine wpAnyH_all (rs:=[11]) (by kernel_rfl) (by simp) (λi hi=>?_);obtain rfl:i=11:=by simpa using hi);refine Qg rfl rfl (λK2 s=>?_);refine Qm 88 #[.pointer (some ⟨g,0,none⟩),.int .u64 (q:Int)] (w1:=W3) (by go_simp) ((Z2 g g _ q (by rw[La,La];have:=ac.out;omega) (by omega) W3 k3).mono ?_);rintro e W4 ⟨rfl,k4,f4⟩;refine⟨_,rfl,?_⟩;refine s _ _ ?_;clear s K2;simp only[Act.put,Qa,Qb,Qc];have au:=aa.out _ _ ar f4;refine⟨au,?_⟩;refine wpAnyH_done (by kernel_rfl) ?_ _;have ab:=ba.trans f4
  have HF:Hid (KeepsFrom w5.heap.size V W4/\(KpX (λi=>X i\/i=w5.heap.size+1) V W4/\SKeep V W4)/\(Wr W4 g g (QC n++(j++[(⟨a,⟨(m:Int),d⟩⟩:PlX)]).flatMap ixL)/\Row W4 P 116 #[.pointer (some ⟨g,0,none⟩)]/\Row W4 bt 43 #[.slice A n cap]/\Below w.heap.size w W4)):=by
   obtain⟨bg,v9,r9,q9⟩:=h1;refine⟨ab.keeps r9,⟨ab.kp λk hk=>?_,ab.sk ⟨bg,v9,r9,q9⟩⟩,?_,(T0.out _ au).1,ab.row h3 (by have:=a7.out;omega) (by decide),h4.trans ((ab.below (Nat.le_refl _) (by have:=r9.lt;omega)).mono Hg.out)⟩
   ·by_cases e1:k=P
    ·subst e1;exact .inr ⟨an,_,_,u,by decide⟩
    ·by_cases e2:k=bt
     ·subst e2;exact .inr ⟨by have:=a7.out;omega,_,_,h3,by decide⟩
     ·refine .inl (Nat.lt_of_not_le λhg=>hk (.inl ((HX.out k).2 ⟨hg,e1,e2⟩)))
   ·rw[LM,LF,List.flatMap_nil,LT,be.out];simpa using k4
  clear ar au a8 a9 ba ab f1 f2 f4 b3 k1 k2 k3 k4 bd a5 aa bc T0 TS S h1 u h3 h4 aj an a3 bh bi bk bl bm;refine JW ?_;gi_wp2_with fail
  exact HF.out
 case done=>
  rintro D _ V hD rfl ⟨h1,u,h3,h4⟩ hK;have hg:=grownBy_putObj' V D (.deferred none);obtain⟨hB,v,q1,q2⟩:=h1;rw[Adg, <-Hz.out]at q2;have c9:=u.cellv (i:=0) (v:=.pointer (some ⟨g,0,none⟩)) rfl;have a2:=Lv (ZZ g g z V ⟨hB,v,q1,q2⟩);have HF:Hid (Below w.heap.size w (V.putObj D (.deferred none))):=h4.grown hg h4.size (λk e=>by cases e;have:=ag.out.size;omega);have HK:=Lv hK;clear hK hg u h3 h4 q1 q2 am az;gi_wp2;go_wp2_with fail
  refine a2.out.mono ?_;rintro e w9 ⟨rfl,rfl⟩;clear a2 c9;go_wp2_with fail
  refine⟨by simp,.inl ⟨_,_,rfl,run_takeDeferred HK.out,?_⟩⟩;exact⟨_,results_tmp Tryz.results154 _ _ _,rfl,HF.out⟩
end Go.Proofs.YtgnmkiafeplbpaaGreatDoor
namespace Go.Proofs.YtgnmkiafeplbpaaGreatDoor
open Go.RowKit Go.Deep
attribute [local go_sem] Oper.semAt_some
theorem AjD{n k:Nat}(h:k<4):(leL n 4).take (k+1)=(leL n 4).take k++[UInt8.ofNat (n / 256 ^ k % 256)]:=by
 have a:k=0\/k=1\/k=2\/k=3:=by omega
 rcases a with rfl|rfl|rfl|rfl<;>simp[leL,Nat.div_div_eq_div_mul]
theorem AiO (m k:Nat):(m:Int) / 2 ^ (8*k) % 256=((UInt8.ofNat (m / 256 ^ k % 256)).toNat:Int):=by
 have h:(2:Nat) ^ (8*k)=256 ^ k:=by rw[Nat.pow_mul]
 have e:(m:Int) / 2 ^ (8*k) % 256=((m / 2 ^ (8*k) % 256:Nat):Int):=by simp
 rw[e,h];simp
theorem Ac0 (w:World):(zeroValue 3).run Tryz.prog w=.ok (.int .i64 0) w:=by kernel_rfl
theorem Ack:∀(a:Nat) (l:List Sec),(AaJ a l).length<=30*l.length:=λa l=>by
 rw[<-Adg];have:=AgG (plZ a l);rw[Uh]at this;exact this
theorem Aal (A:Option Addr)(cap:Nat)(l:List Sec)(hl:SecOk l)(h16:l.length<=16)(w:World)(hr:Rd w A (Zy l)):
 Calls Tryz.prog 77 #[.slice A l.length cap] w λe w'=>e=.returned (.string ⟨(Zh l).toArray⟩)/\Below w.heap.size w w':=by
 have Hr:=Lv hr;have Hl:=Lv hl;have a6:=Lv h16;obtain⟨n,ae⟩:∃n,n=l.length:=⟨_,rfl⟩;obtain⟨z,hz⟩:∃z,z=Zh l:=⟨_,rfl⟩;have Hz:Hid (z=ZS l++(Zn (ZS l)++(leL (7+(Qq l).length) 4++YG))):=hz;have ar:=Lv ae;have aq:=Lv (λW h=>AhS A cap l hl h16 W h);rw[<-ae]at aq;rw[<-ae, <-hz];have bd:(n:Int)<=16:=by omega
 clear hr hl h16 ae hz;refine(callsIn_wide (n:=0)).1 ?_;refine callsIn_of_wp_marks Tryz.func77 rfl trivial ?_;simp only[Tryz.ntmps77,Ly,Le,Ll,Nat.reduceAdd,Nat.reduceSub,Ln,Lp,Lz,LD,Lu,Lk];refine wpIn_wide.2 ?_;go_wp2_with (refine Qs _ rfl ?_)
 refine Stop.to ?_;refine Qi rfl 3 rfl _ _ (Ac0 _) rfl ?_;intro N w1 hN rN bN;go_wp2_with (refine Qk _ _ _ rfl ?_)
 refine Stop.to ?_;refine Qt rfl 3 _ _ rfl N 0 rfl _ rfl [.int .i64 7] rfl 3 #[.int .i64 0] #[.int .i64 7] rN (by kernel_rfl) (by simp) (by simp[Value.oneCell']) rfl ?_;intro w2 r2 o2;have b2:Below w.heap.size w w2:=(bN.mono hN).trans (o2.below hN);clear rN bN o2;go_wp2_with fail
 refine(Vc A n cap w2).mono ?_;rintro e w5 ⟨bt,rfl,r5,ba,b5⟩;have R2:=r2.below b5 r2.lt;have aa:Hid (Below w.heap.size w w5):=b2.trans (b5.mono b2.size);have ac:Hid (w.heap.size<=N/\N<bt):=⟨hN,by have:=r2.lt;omega⟩;clear r2 b5 b2 hN ba;go_wp2_with fail
 obtain⟨X,ay⟩:∃X:Nat->Prop,X=(λk=>k=N):=⟨_,rfl⟩;have HX:Hid (∀k,X k<->k=N):=λk=>by rw[ay]
 have hC:SecsC A cap l X bt w5:=⟨Hr.out.go aa.out,λak ad e h=>by have h1:=X3 Hr.out ak e;have j:=(HX.out _).1 h;have:=ac.out;omega,by rw[<-ar.out];exact r5,λh=>by have j:=(HX.out _).1 h;have:=ac.out;omega⟩;have ag:=Lv (Vb A cap l Hl.out X bt w5 hC);rw[<-ar.out]at ag;have ao:Hid (Row w5 N 3 #[.int .i64 ((7+(Qq (l.take ([]:List PlX).length)).length:Nat):Int)]/\Row w5 bt 43 #[.slice A n cap]/\Below w.heap.size w w5):=⟨R2,r5,aa.out⟩;clear hC R2 r5 ay;refine(wpIn_wide (n:=0)).1 ?_
 refine YU (gf:=210) (lb:=#[.pointer (some ⟨bt,0,none⟩)]) rfl (enters_of Tryz.func210 (by kernel_rfl) rfl) ag.out (λr h=>h.elim)
  (λh k=>⟨h.1.trans k.1,h.2.trans k.2⟩) (λV o o' ho hc=>⟨⟨λi p hx hp=>by rw[World.putObj_heap_other (λe=>hx (.inr e))];exact hp,by simp⟩,λi cs r=>by
   have ak:i≠w5.heap.size+1:=λe=>by
    subst e
    have h9:V.heap[w5.heap.size+1]? =some (.cells cs 48 (0,0)):=r
    rw[ho]at h9
    injection h9 with h9
    rw[h9]at hc
    cases hc
   exact(World.putObj_heap_other ak).trans r⟩) (World.grownBy.refl _ _) (λ_=>rfl)
  (λd V=>Row V N 3 #[.int .i64 ((7+(Qq (l.take d.length)).length:Nat):Int)]/\Row V bt 43 #[.slice A n cap]/\Below w.heap.size w V)
  (λ_ _ _=>False) (.inl trivial) ?hI ?hIx ao.out
  (λd y a' V=>∃D,a'={ tmps:=#[.slice A n cap,undef,.string ⟨#[]⟩,.pointer (some ⟨N,0,none⟩),.int .i64 (y.i:Int),.pointer (some ⟨D,0,none⟩),undef,undef,undef,.slice A n cap,.func (.func 210) #[] #[.pointer (some ⟨bt,0,none⟩)],.int .i64 (y.i:Int),.agg (QO y.x),undef,undef,undef,undef,undef,undef,undef,undef,undef,undef,undef,undef,undef,undef,undef,undef,undef,undef,undef,undef,undef,undef,undef,undef,undef,undef],defers:=[] }/\Row V D 48 (QO y.x)/\d++[y]=(plZ 7 l).take (d.length+1)) ?hAx ?assign ?body ?done ?stop
 case hI=>
  rintro d V V' row ⟨j,s,t⟩ hg hr
  have a3:∀r,row=some r->w5.heap.size<=r:=λr e=>by
   rcases hr r e with h|⟨h,o,ho,hc⟩
   ·exact h.elim
   ·exact h
  exact⟨j.abide hg hr,s.abide hg hr,t.grown hg t.size (λk e=>by have:=a3 k e;have:=aa.out.size;omega)⟩
 case hIx=>exact λ_ _ _ _ _ h _ _=>h
 case hAx=>
  rintro d x a' _ V V' row ⟨D,h1,j,s⟩ hg hr;exact⟨D,h1,Row.abide j hg hr,s⟩
 case stop=>exact λD c d W _ _ h _=>h.elim
 case assign=>
  rintro l3 d y V K ⟨j,s,t⟩ hP hK;have HK:=Lv hK;have HP:=Lv hP;clear hK hP;unfold PlX.enc;gi_wp2_with (refine VO _ _ _ rfl ?_);refine Stop.to ?_;obtain⟨D,hD⟩:∃D,D=V.heap.size:=⟨_,rfl⟩;obtain⟨V1,ab⟩:∃V1,V1=V.alloc (.cells #[.int .i64 0,.string ⟨#[]⟩] 48):=⟨_,rfl⟩;have rD:Row V1 D 48 #[.int .i64 0,.string ⟨#[]⟩]:=by rw[ab,hD];exact Row.new _ _ _
  have u:Below V.heap.size V V1:=by rw[ab];exact(Below.refl _ _).alloc (Nat.le_refl _) _
  rw[<-ab, <-hD];have ax:V.heap.size<=D:=LI hD.symm;clear ab hD;refine Zz rfl 48 _ _ rfl D (QO y.x) rfl rfl 48 _ rD (by kernel_rfl) rfl (by simp[QO,Value.oneCell']) ?_;have an:=rD.setRow (QO y.x);have o2:=ZY V1 D (QO y.x);have b2:Below V.heap.size V (V1.setRow D (QO y.x)):=Ql u o2 ax;generalize V1.setRow D (QO y.x)=V2 at an o2 b2|-;have HF:=Lv (And.intro ((KpX.of_below b2).keeps (b:=w5.heap.size) (X:=λ_=>False) (λ_ h=>h.elim)) (And.intro (show KpX (λi=>X i\/i=w5.heap.size+1) V V2/\SKeep V V2 from⟨KpX.of_below b2,SKeep.below b2⟩) (And.intro (show Row V2 N 3 #[.int .i64 ((7+(Qq (l.take d.length)).length:Nat):Int)]/\Row V2 bt 43 #[.slice A n cap]/\Below w.heap.size w V2 from⟨j.below b2 j.lt,s.below b2 s.lt,t.trans (b2.mono t.size)⟩) an)));clear rD an u o2 b2 ax j s t;gi_wp2_with fail
  exact HK.out _ _ HF.out.1 HF.out.2.1 HF.out.2.2.1 ⟨D,rfl,HF.out.2.2.2,HP.out⟩
 case body=>
  rintro l3 d y a' V bb _ ⟨j,s,t⟩ ⟨D,rfl,a2,al⟩ a0;obtain⟨x,hx,rfl⟩:=AjX al;have am:=Li hx;have av:=Lv (λW=>Ul x W (Hl.out.ty _ am) (Hl.out.dl _ am));obtain⟨a,ha⟩:∃a,a=7+(Qq (l.take d.length)).length:=⟨_,rfl⟩;obtain⟨q,hq⟩:∃q,q=ZD x:=⟨_,rfl⟩;have a4:=Y9 hx;have bg:a+q<=1000000007:=by have e2:=J8 l (d.length+1);have e3:=Hl.out.sum;omega
  have au:Hid (7+(Qq (l.take (d++[(⟨7+(Qq (l.take d.length)).length,x⟩:PlX)]).length)).length=a+q):=by
   show _=_;rw[La,Nb,a4];omega
  rw[<-ha]at al au j|-;rw[<-hq]at av;clear hx am ha hq bb a0 al a4;gi_wp2_with (refine ZW rfl 48 _ rfl ⟨D,0,none⟩ rfl (QO x).toList _ (Vp a2) Tryz.underlying48 rfl (by kernel_rfl) ?_);refine⟨trivial,rfl,(CallsIn.inRound l3 (callsIn_wide.2 (av.out V))).mono ?_⟩;rintro e W1 ⟨rfl,u⟩;have r1:=j.below u j.lt;have f1:=r1.free 0;have c1:=r1.cellv (i:=0) (v:=.int .i64 (a:Int)) rfl;have o1:=Qu W1 N 0 (.int .i64 ((a:Int)+(q:Int)));have r2:=r1.set 0 (.int .i64 ((a:Int)+(q:Int)));have az:=t.trans (u.mono t.size)
  have HF:Hid (KeepsFrom w5.heap.size V (W1.setCell ⟨N,0,none⟩ (.int .i64 ((a:Int)+(q:Int))))/\(KpX (λi=>X i\/i=w5.heap.size+1) V (W1.setCell ⟨N,0,none⟩ (.int .i64 ((a:Int)+(q:Int))))/\SKeep V (W1.setCell ⟨N,0,none⟩ (.int .i64 ((a:Int)+(q:Int)))))/\(Row (W1.setCell ⟨N,0,none⟩ (.int .i64 ((a:Int)+(q:Int)))) N 3 #[.int .i64 ((7+(Qq (l.take (d++[(⟨a,x⟩:PlX)]).length)).length:Nat):Int)]/\Row (W1.setCell ⟨N,0,none⟩ (.int .i64 ((a:Int)+(q:Int)))) bt 43 #[.slice A n cap]/\Below w.heap.size w (W1.setCell ⟨N,0,none⟩ (.int .i64 ((a:Int)+(q:Int)))))):=by
   refine⟨((KpX.of_below u).keeps (b:=w5.heap.size) (X:=λ_=>False) (λ_ h=>h.elim)).trans (KeepsFrom.of_only r1 o1),⟨(KpX.of_below u).trans (KpX.only o1 (.inl ((HX.out N).2 rfl))),λi cs r=>(r.below u r.lt).only o1 (Vq (r.below u r.lt) r1 (by decide))⟩,?_,(s.below u s.lt).only o1 (by have:=ac.out;omega),Ql az o1 ac.out.1⟩;have e:(7+(Qq (l.take (d++[(⟨a,x⟩:PlX)]).length)).length)=a+q:=by have:=au.out;simpa using this
   rw[e];simpa using r2
  clear j s t a2 u r1 o1 r2 az;gi_wp2_with fail
  exact HF.out
 case done=>
  rintro D _ V hD rfl ⟨j,s,t⟩ hK;rw[Uh,Lm (Nat.le_refl _)]at j;obtain⟨m,hm⟩:∃m,m=7+(Qq l).length:=⟨_,rfl⟩;have bc:m<=1000000007:=by have:=Hl.out.sum;omega
  rw[<-hm]at j Hz;have ap:=Lv t;have HK:=Lv hK;have a8:Hid (w.heap.size<=D):=Lj aa.out.size hD;have a7:=Lv (Hr.out.go t);clear hK s t ag ao hm hD;gi_wp2;go_wp2_with fail
  refine(aq.out V a7.out).mono ?_;rintro e V1 ⟨rfl,u⟩;have r1:=j.below u j.lt;have ah:Hid (V1.heap[D]? =some (.deferred (some []))):=(u.block D (Lt.1 HK.out).1).trans HK.out;have af:=Lv (ap.out.trans (u.mono ap.out.size));clear j u;go_wp2_with fail
  refine(JS V1).mono ?_;rintro e V2 ⟨g,rfl,j,b2,hg⟩;obtain⟨x,hx⟩:∃x,x=ZS l:=⟨_,rfl⟩
  have bi:x.length<=600:=by
   rw[hx];unfold ZS;have e1:=Qz l.length;have e2:=Ack 7 l;have:=a6.out;rw[La];omega
  rw[<-hx]at Hz|-;have ai:N≠g:=by have:=r1.lt;omega
  have be:D≠g:=by have:=(Lt.1 ah.out).1;omega
  have bh:w.heap.size<=g:=Lj af.out.size hg;have r2:=r1.below b2 r1.lt;have f2:WrEff g g V1 V2:=.of_below b2;clear r1 b2 hx;go_wp2_with fail
  refine(Yk g g [] ⟨x.toArray⟩ (by simp) (by simp[ByteArray.size];omega) V2 j).mono ?_;rintro e V3 ⟨rfl,s,f3⟩;have s:Wr V3 g g x:=by simpa using s
  have r3:=f3.row r2 ai (by decide);have f3:=f2.trans f3;clear r2 f2 j;go_wp2_with fail
  refine(YD x V3 (by omega)).mono ?_;rintro e V4 ⟨rfl,b4⟩;have t:=s.go b4;have r4:=r3.below b4 r3.lt;have f4:=f3.trans (.of_below b4);obtain⟨y,hy⟩:∃y,y=Zn x:=⟨_,rfl⟩;have bj:y.length=4:=by rw[hy];exact X7 _
  rw[<-hy]at Hz|-;clear s r3 f3 b4 hy;go_wp2_with fail
  refine(Yk g g x ⟨y.toArray⟩ (by omega) (by simp[ByteArray.size];omega) V4 t).mono ?_;rintro e V5 ⟨rfl,h5,f5⟩;have h5:Wr V5 g g (x++y):=by simpa using h5
  have r5:=f5.row r4 ai (by decide);have f5:=f4.trans f5;clear t r4 f4;go_wp2_with fail
  go_loopw [25] (λi W=>∃k:Nat,i=.int .i64 (k:Int)/\k<=4/\Wr W g g ((x++y)++(leL m 4).take k)/\Row W N 3 #[.int .i64 (m:Int)]/\WrEff g g V1 W) (λi _=>4-(intOf i).toNat)
  case atStart=>exact⟨0,rfl,by omega,by simpa using h5,r5,f5⟩
  case round=>
   obtain⟨k,rfl,hk,h6,r6,f6⟩:=hrel;by_cases a1:k<4
   ·have bf:(k:Int)<4:=by omega
    have c6:=r6.cellv (i:=0) (v:=.int .i64 (m:Int)) rfl;clear h5 r5 f5;have hb:Hid ((m:Int) / 2 ^ (8*k) % 256=((UInt8.ofNat (m / 256 ^ k % 256)).toNat:Int)):=AiO m k;have aw:=Lv (AjD (n:=m) a1);go_wp2_with fail
    rw[hb.out];refine(JT g g _ (UInt8.ofNat (m / 256 ^ k % 256)) (by rw[La,La];have:=NB k (leL m 4);omega) wr h6).mono ?_;rintro e V6 ⟨rfl,h7,f7⟩;rw[L4, <-aw.out]at h7;have r7:=f7.row r6 ai (by decide);have f7:=f6.trans f7;clear h6 r6 f6 hb aw c6;go_wp2_with fail
    go_roundw
    case rel=>exact⟨k+1,by go_num,by omega,h7,r7,f7⟩
    case measure=>simp[intOf];omega
   ·obtain rfl:k=4:=by omega
    have h7:Wr wr g g ((x++y)++leL m 4):=by rw[Lm (by rw[Xu];exact Nat.le_refl _)]at h6;exact h6
    clear h5 r5 f5 a1 hk h6 r6;go_wp2_with fail
    refine(Yk g g _ ⟨#[69,78,68,46]⟩ (by simp only[La,Xu];omega) (by decide) wr h7).mono ?_;rintro e V6 ⟨rfl,h8,f8⟩;have f9:=f6.trans f8;have a5:(x++y)++leL m 4++(⟨#[69,78,68,46]⟩:ByteArray).data.toList=z:=by rw[Hz.out];simp[YG]
    rw[a5]at h8;clear h7 f6 f8 a5;go_wp2_with fail
    refine(ZZ g g z V6 h8).mono ?_;rintro e V7 ⟨rfl,rfl⟩;have b9:Below V1.heap.size V1 V6:=⟨f9.os,f9.tape,f9.output,f9.size,λk hk=>f9.block k hk (by omega) (λ_ h _=>by omega)⟩;have a9:V6.heap[D]? =some (.deferred (some [])):=(b9.block D (Lt.1 ah.out).1).trans ah.out;have aj:=af.out.trans (b9.mono af.out.size);have HF:Hid (Below w.heap.size w (V6.putObj D (.deferred none))):=aj.grown (grownBy_putObj' V6 D (.deferred none)) aj.size (λk e=>by cases e;exact a8.out);clear h8 f9 b9 aj;go_wp2_with fail
    refine⟨by simp,.inl ⟨_,_,rfl,run_takeDeferred a9,?_⟩⟩;exact⟨_,results_tmp Tryz.results77 _ _ _,rfl,HF.out⟩
end Go.Proofs.YtgnmkiafeplbpaaGreatDoor
