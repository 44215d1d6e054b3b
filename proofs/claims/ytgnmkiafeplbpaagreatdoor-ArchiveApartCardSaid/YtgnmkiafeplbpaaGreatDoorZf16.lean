/- Lemmas for ArAll. -/
import Derived.Test.YtgnmkiafeplbpaaGreatDoorZf1
import Derived.Test.YtgnmkiafeplbpaaGreatDoorZf15
set_option linter.unusedVariables false
set_option linter.unusedSimpArgs false
set_option maxRecDepth 100000
set_option maxHeartbeats 16000000
namespace Go.Proofs.YtgnmkiafeplbpaaGreatDoor
open Go.RowKit Go.Deep
attribute [local go_sem] Oper.semAt_some
theorem AhX (A:Option Addr)(cap n bl Rb:Nat)(tag:Int)(nn:Int)(ys:List Nd)(Z:Nat->Obj->Prop)(w:World)(hC:ListsC A cap n bl Rb ⟨tag,nn⟩ ys Z w)(full:List (Int×List Int))
 (hc:(7<=tag/\tag<=11/\full=[(1,Jz 7 11 tag)])\/(12<=tag/\tag<=17/\full=[(2,Jz 12 17 tag)])\/(tag=18/\full=[(3,Jz 18 19 18)])\/(tag=19/\full=[(3,Jz 18 19 19)])\/((tag=21\/tag=22)/\full=[(5,[0])])\/((tag=23\/tag=24)/\full=[(5,[0]),(6,[0])])\/(tag=2/\full=[(4,[wrap64 (1-nn)])])\/
  (tag=1/\full=[(4,Ka nn [0,1, -1,wrap64 (nn+1),wrap64 (nn-1)])])\/(tag=25/\full=[(5,[0]),(7,Zo (ys.headD ⟨0,0⟩))])\/((tag=3\/tag=4\/tag=5\/tag=6\/tag=20\/tag=26)/\full=[])):
 Aae Tryz.prog 283 #[.pointer (some ⟨bl,0,none⟩)] LsX.enc (λ_=>False) (λlb=>KpG (λk o=>Z k o\/k=lb)) (LsP full) (λxs=>xs.map LsX.f=full) (λ_=>True) full.length False w:=by
 intro lb J Jx W a8 ar aw hJ bh hY h0;replace aw:∀al W',¬Jx al W':=aw.resolve_left id;have a7:Below w.heap.size w W:=⟨ar.os,ar.tape,ar.output,ar.size,λk hk=>ar.block k hk (by simp)⟩;have HC:=Lv hC;have HB:=Lv a7;have HL:=Lv a8;have HJ:=Lv hJ
 have HY:Hid (∀al (x:LsX) W1,J al W1->LsP full al x W1->al.length<full.length->YieldAt Fence.wide 0 Tryz.prog lb x.enc W1 λe W'=>e=.returned (.bool true)/\J (al++[x]) W'/\KpG (λk o=>Z k o\/k=lb) W1 W'):=λal x W1 h1 h2 h3=>(hY al x W1 h1 h2 h3).mono λe W' h=>by
  rcases h with h|⟨_,h,_⟩
  ·exact h
  ·exact absurd h (aw _ _)
 clear hC a7 a8 hJ bh hY aw ar;refine callsIn_of_wp Tryz.func283 rfl trivial ?_ rfl;simp only[Tryz.ntmps283,Ly,Le,Ll,Nat.reduceAdd,Nat.reduceSub,Ln,Lp,Lz,LD,Lu,Lk];obtain⟨W1,a1⟩:∃W1,W1=W.alloc (.cells #[.func (.yield lb) #[] #[]] 340):=⟨_,rfl⟩;have b1:Below W.heap.size W W1:=by rw[a1];exact(Below.refl _ _).alloc (Nat.le_refl _) _
 have bc:=(HC.out.rl.below HB.out HC.out.rl.lt).below b1 (Lg HC.out.rl.lt HB.out.size);have ba:=(HC.out.hr.go HB.out).go b1;obtain⟨ad,a2,a3⟩:=JG ba (k:=0) (x:=⟨tag,nn⟩) rfl;have e0:W1.cell? ad=some (.int .i64 tag):=by have:=a3 0 _ rfl;rwa[Nat.zero_mul,KW,KW]at this
 have e1:W1.cell? ⟨ad.block,ad.off+1,none⟩=some (.int .i64 nn):=by have:=a3 1 _ rfl;rw[Nat.zero_mul,KW]at this;exact this
 have bj:(0:Int)<(n:Int):=by have:=HC.out.hn;rw[this];simp
 have cl:=bc.cellv (i:=0) (v:=.slice A n cap) rfl;rw[a2]at cl;rw[a1]at cl e0 e1;have a5:=Lv a2;clear a3 ba bc b1 a1 a2;obtain⟨u,ap⟩:∃u,u=((W.alloc (.cells #[.func (.yield lb) #[] #[]] 340)).alloc (.cells #[.int .i64 tag,.int .i64 nn] 52)).alloc (.cells #[.bool true] 4):=⟨_,rfl⟩
 have ax:∀k cs t fr,W.heap.size<=k->(t=340\/t=52\/t=4\/t=3)->¬(Z k (.cells cs t fr)\/k=lb):=λk cs t fr h1 h2 h=>by
  rcases h with h|h
  ·exact HC.out.z2 k cs t fr (by have:=HB.out.size;omega) h2 h
  ·have:=HL.out.2;omega
 have b3:Below W.heap.size W u:=by rw[ap];exact(((Below.refl _ _).alloc (Nat.le_refl _) _).alloc (by simp) _).alloc (by simp;omega) _
 have hT:TellC lb (W.heap.size+1+1) W.heap.size (λk o=>Z k o\/k=lb) u:=by
  refine⟨?_,?_,λcs fr=>ax _ _ _ _ (by omega) (by simp),λcs fr=>ax _ _ _ _ (by omega) (by simp)⟩
  ·rw[ap];have:=Row.new ((W.alloc (.cells #[.func (.yield lb) #[] #[]] 340)).alloc (.cells #[.int .i64 tag,.int .i64 nn] 52)) 4 #[.bool true];simpa using this
  ·rw[ap];exact((Row.new W 340 #[.func (.yield lb) #[] #[]]).alloc _).alloc _
 have l:Row u (W.heap.size+1) 52 #[.int .i64 tag,.int .i64 nn]:=by
  rw[ap];have:=(Row.new (W.alloc (.cells #[.func (.yield lb) #[] #[]] 340)) 52 #[.int .i64 tag,.int .i64 nn]).alloc (.cells #[.bool true] 4);simpa using this
 have m:=QI HJ.out h0 b3;have aa:u.heap.size=W.heap.size+1+1+1:=by rw[ap];simp
 have zN:Hid (¬(Z (W.heap.size+1) (.cells #[.int .i64 tag,.int .i64 nn] 52 (0,0))\/W.heap.size+1=lb)):=ax _ _ _ _ (by omega) (by simp);have s:=Lv hT;have RN:=Lv l;have af:=Lv aa;have B3:=Lv b3;have ac:=Lv m;have ae:=Lv ap;have H0:=Lv h0;clear ax b3 hT l aa m ap h0;rcases hc with⟨h1,h2,d⟩|⟨h1,h2,d⟩|⟨rfl,d⟩|⟨rfl,d⟩|⟨rfl|rfl,d⟩|⟨rfl|rfl,d⟩|⟨rfl,d⟩|⟨rfl,d⟩|⟨rfl,d⟩|⟨rfl|rfl|rfl|rfl|rfl|rfl,d⟩
 ·skip;have b:=Lv d;clear d;gi_wp2_with fail
  rw[<-ae.out];have l:=RN.out;have aa:=af.out;have ah:=B3.out;have m:=ac.out;clear ae RN af B3 ac H0 cl e0 e1;refine⟨trivial,rfl,(callsIn_wide.2 (E9 7 11 tag u (by omega) (by omega) (by omega))).mono ?_⟩;rintro e W4 ⟨A4,c4,rfl,aj,ag,j,z⟩;replace m:=QI HJ.out m j;replace l:=((KpG.of_below (Z:=λk o=>Z k o\/k=lb) j)).row l zN.out;replace s:=Lv (s.out.kg ((KpG.of_below (Z:=λk o=>Z k o\/k=lb) j)));clear aa;gi_wp2_with fail
  have p:=HY.out [] ⟨1,A4,c4,(Jz 7 11 tag)⟩ W4 m ⟨⟨aj,ag,z⟩,by rw[b.out];exact⟨_,rfl⟩⟩ (by rw[b.out];simp);have c:=Lv (Jm lb (W.heap.size+1+1) W.heap.size (λk o=>Z k o\/k=lb) W4 ⟨1,A4,c4,(Jz 7 11 tag)⟩ (J ([]++[⟨1,A4,c4,(Jz 7 11 tag)⟩])) s.out p);clear p m;refine⟨trivial,rfl,c.out.mono ?_⟩;clear c;rintro e W5 ⟨⟨_,rfl⟩,m,g⟩;replace l:=(g).row l zN.out;replace s:=Lv (s.out.kg (g));clear g aj ag j;have ct:=l.cellv (i:=0) (v:=.int .i64 _) rfl;have cn:=l.cellv (i:=1) (v:=.int .i64 nn) rfl;clear l;gi_wp2_with fail
  go_end0
  exact⟨⟨_,rfl⟩,.inl ⟨_,by rw[b.out];rfl,m⟩⟩
 ·skip;have b:=Lv d;clear d;gi_wp2_with fail
  rw[<-ae.out];have l:=RN.out;have aa:=af.out;have ah:=B3.out;have m:=ac.out;clear ae RN af B3 ac H0 cl e0 e1;refine⟨trivial,rfl,(callsIn_wide.2 (E9 12 17 tag u (by omega) (by omega) (by omega))).mono ?_⟩;rintro e W4 ⟨A4,c4,rfl,aj,ag,j,z⟩;replace m:=QI HJ.out m j;replace l:=((KpG.of_below (Z:=λk o=>Z k o\/k=lb) j)).row l zN.out;replace s:=Lv (s.out.kg ((KpG.of_below (Z:=λk o=>Z k o\/k=lb) j)));clear aa;gi_wp2_with fail
  have p:=HY.out [] ⟨2,A4,c4,(Jz 12 17 tag)⟩ W4 m ⟨⟨aj,ag,z⟩,by rw[b.out];exact⟨_,rfl⟩⟩ (by rw[b.out];simp);have c:=Lv (Jm lb (W.heap.size+1+1) W.heap.size (λk o=>Z k o\/k=lb) W4 ⟨2,A4,c4,(Jz 12 17 tag)⟩ (J ([]++[⟨2,A4,c4,(Jz 12 17 tag)⟩])) s.out p);clear p m;refine⟨trivial,rfl,c.out.mono ?_⟩;clear c;rintro e W5 ⟨⟨_,rfl⟩,m,g⟩;replace l:=(g).row l zN.out;replace s:=Lv (s.out.kg (g));clear g aj ag j;have ct:=l.cellv (i:=0) (v:=.int .i64 _) rfl;have cn:=l.cellv (i:=1) (v:=.int .i64 nn) rfl;clear l;gi_wp2_with fail
  go_end0
  exact⟨⟨_,rfl⟩,.inl ⟨_,by rw[b.out];rfl,m⟩⟩
 ·skip;have b:=Lv d;clear d;gi_wp2_with fail
  rw[<-ae.out];have l:=RN.out;have aa:=af.out;have ah:=B3.out;have m:=ac.out;clear ae RN af B3 ac H0 cl e0 e1;refine⟨trivial,rfl,(callsIn_wide.2 (E9 18 19 18 u (by omega) (by omega) (by omega))).mono ?_⟩;rintro e W4 ⟨A4,c4,rfl,aj,ag,j,z⟩;replace m:=QI HJ.out m j;replace l:=((KpG.of_below (Z:=λk o=>Z k o\/k=lb) j)).row l zN.out;replace s:=Lv (s.out.kg ((KpG.of_below (Z:=λk o=>Z k o\/k=lb) j)));clear aa;gi_wp2_with fail
  have p:=HY.out [] ⟨3,A4,c4,(Jz 18 19 18)⟩ W4 m ⟨⟨aj,ag,z⟩,by rw[b.out];exact⟨_,rfl⟩⟩ (by rw[b.out];simp);have c:=Lv (Jm lb (W.heap.size+1+1) W.heap.size (λk o=>Z k o\/k=lb) W4 ⟨3,A4,c4,(Jz 18 19 18)⟩ (J ([]++[⟨3,A4,c4,(Jz 18 19 18)⟩])) s.out p);clear p m;refine⟨trivial,rfl,c.out.mono ?_⟩;clear c;rintro e W5 ⟨⟨_,rfl⟩,m,g⟩;replace l:=(g).row l zN.out;replace s:=Lv (s.out.kg (g));clear g aj ag j;have ct:=l.cellv (i:=0) (v:=.int .i64 _) rfl;have cn:=l.cellv (i:=1) (v:=.int .i64 nn) rfl;clear l;gi_wp2_with fail
  go_end0
  exact⟨⟨_,rfl⟩,.inl ⟨_,by rw[b.out];rfl,m⟩⟩
 ·skip;have b:=Lv d;clear d;gi_wp2_with fail
  rw[<-ae.out];have l:=RN.out;have aa:=af.out;have ah:=B3.out;have m:=ac.out;clear ae RN af B3 ac H0 cl e0 e1;refine⟨trivial,rfl,(callsIn_wide.2 (E9 18 19 19 u (by omega) (by omega) (by omega))).mono ?_⟩;rintro e W4 ⟨A4,c4,rfl,aj,ag,j,z⟩;replace m:=QI HJ.out m j;replace l:=((KpG.of_below (Z:=λk o=>Z k o\/k=lb) j)).row l zN.out;replace s:=Lv (s.out.kg ((KpG.of_below (Z:=λk o=>Z k o\/k=lb) j)));clear aa;gi_wp2_with fail
  have p:=HY.out [] ⟨3,A4,c4,(Jz 18 19 19)⟩ W4 m ⟨⟨aj,ag,z⟩,by rw[b.out];exact⟨_,rfl⟩⟩ (by rw[b.out];simp);have c:=Lv (Jm lb (W.heap.size+1+1) W.heap.size (λk o=>Z k o\/k=lb) W4 ⟨3,A4,c4,(Jz 18 19 19)⟩ (J ([]++[⟨3,A4,c4,(Jz 18 19 19)⟩])) s.out p);clear p m;refine⟨trivial,rfl,c.out.mono ?_⟩;clear c;rintro e W5 ⟨⟨_,rfl⟩,m,g⟩;replace l:=(g).row l zN.out;replace s:=Lv (s.out.kg (g));clear g aj ag j;have ct:=l.cellv (i:=0) (v:=.int .i64 _) rfl;have cn:=l.cellv (i:=1) (v:=.int .i64 nn) rfl;clear l;gi_wp2_with fail
  go_end0
  exact⟨⟨_,rfl⟩,.inl ⟨_,by rw[b.out];rfl,m⟩⟩
 ·skip;have b:=Lv d;clear d;gi_wp2_with fail
  rw[<-ae.out];have l:=RN.out;have aa:=af.out;have ah:=B3.out;have m:=ac.out;clear ae RN af B3 ac H0 cl e0 e1;obtain⟨W4,q⟩:∃V,V=(u).alloc (.cells #[.int .i64 0] 3):=⟨_,rfl⟩;have j:Below (u).heap.size u W4:=by rw[q];exact(Below.refl _ _).alloc (Nat.le_refl _) _
  have ab:Rd W4 (some ⟨(u).heap.size,0,none⟩) (Qj [0]):=by rw[q];exact Z5 _ _ _
  have z:IntB W4 (some ⟨(u).heap.size,0,none⟩):=λa e=>by injection e with e;subst e;rw[q];exact⟨_,Row.new _ _ _⟩
  rw[<-q];clear q;rw[<-aa];replace m:=QI HJ.out m j;replace l:=((KpG.of_below (Z:=λk o=>Z k o\/k=lb) j)).row l zN.out;replace s:=Lv (s.out.kg ((KpG.of_below (Z:=λk o=>Z k o\/k=lb) j)));have p:=HY.out [] ⟨5,some ⟨u.heap.size,0,none⟩,1,[0]⟩ W4 m ⟨⟨ab,by simp,z⟩,by rw[b.out];exact⟨_,rfl⟩⟩ (by rw[b.out];simp);have c:=Lv (Jm lb (W.heap.size+1+1) W.heap.size (λk o=>Z k o\/k=lb) W4 ⟨5,some ⟨u.heap.size,0,none⟩,1,[0]⟩ (J ([]++[⟨5,some ⟨u.heap.size,0,none⟩,1,[0]⟩])) s.out p);clear p m;refine⟨trivial,rfl,c.out.mono ?_⟩;clear c;rintro e W5 ⟨⟨_,rfl⟩,m,g⟩;replace l:=(g).row l zN.out;replace s:=Lv (s.out.kg (g));clear g ab j aa ah;have ct:=l.cellv (i:=0) (v:=.int .i64 _) rfl;have cn:=l.cellv (i:=1) (v:=.int .i64 nn) rfl;clear l;gi_wp2_with fail
  go_end0
  exact⟨⟨_,rfl⟩,.inl ⟨_,by rw[b.out];rfl,m⟩⟩
 ·skip;have b:=Lv d;clear d;gi_wp2_with fail
  rw[<-ae.out];have l:=RN.out;have aa:=af.out;have ah:=B3.out;have m:=ac.out;clear ae RN af B3 ac H0 cl e0 e1;obtain⟨W4,q⟩:∃V,V=(u).alloc (.cells #[.int .i64 0] 3):=⟨_,rfl⟩;have j:Below (u).heap.size u W4:=by rw[q];exact(Below.refl _ _).alloc (Nat.le_refl _) _
  have ab:Rd W4 (some ⟨(u).heap.size,0,none⟩) (Qj [0]):=by rw[q];exact Z5 _ _ _
  have z:IntB W4 (some ⟨(u).heap.size,0,none⟩):=λa e=>by injection e with e;subst e;rw[q];exact⟨_,Row.new _ _ _⟩
  rw[<-q];clear q;rw[<-aa];replace m:=QI HJ.out m j;replace l:=((KpG.of_below (Z:=λk o=>Z k o\/k=lb) j)).row l zN.out;replace s:=Lv (s.out.kg ((KpG.of_below (Z:=λk o=>Z k o\/k=lb) j)));have p:=HY.out [] ⟨5,some ⟨u.heap.size,0,none⟩,1,[0]⟩ W4 m ⟨⟨ab,by simp,z⟩,by rw[b.out];exact⟨_,rfl⟩⟩ (by rw[b.out];simp);have c:=Lv (Jm lb (W.heap.size+1+1) W.heap.size (λk o=>Z k o\/k=lb) W4 ⟨5,some ⟨u.heap.size,0,none⟩,1,[0]⟩ (J ([]++[⟨5,some ⟨u.heap.size,0,none⟩,1,[0]⟩])) s.out p);clear p m;refine⟨trivial,rfl,c.out.mono ?_⟩;clear c;rintro e W5 ⟨⟨_,rfl⟩,m,g⟩;replace l:=(g).row l zN.out;replace s:=Lv (s.out.kg (g));clear g ab j aa ah;have ct:=l.cellv (i:=0) (v:=.int .i64 _) rfl;have cn:=l.cellv (i:=1) (v:=.int .i64 nn) rfl;clear l;gi_wp2_with fail
  go_end0
  exact⟨⟨_,rfl⟩,.inl ⟨_,by rw[b.out];rfl,m⟩⟩
 ·skip;have b:=Lv d;clear d;gi_wp2_with fail
  rw[<-ae.out];have l:=RN.out;have aa:=af.out;have ah:=B3.out;have m:=ac.out;clear ae RN af B3 ac H0 cl e0 e1;obtain⟨W4,q⟩:∃V,V=(u).alloc (.cells #[.int .i64 0] 3):=⟨_,rfl⟩;have j:Below (u).heap.size u W4:=by rw[q];exact(Below.refl _ _).alloc (Nat.le_refl _) _
  have ab:Rd W4 (some ⟨(u).heap.size,0,none⟩) (Qj [0]):=by rw[q];exact Z5 _ _ _
  have z:IntB W4 (some ⟨(u).heap.size,0,none⟩):=λa e=>by injection e with e;subst e;rw[q];exact⟨_,Row.new _ _ _⟩
  rw[<-q];clear q;rw[<-aa];replace m:=QI HJ.out m j;replace l:=((KpG.of_below (Z:=λk o=>Z k o\/k=lb) j)).row l zN.out;replace s:=Lv (s.out.kg ((KpG.of_below (Z:=λk o=>Z k o\/k=lb) j)));have p:=HY.out [] ⟨5,some ⟨u.heap.size,0,none⟩,1,[0]⟩ W4 m ⟨⟨ab,by simp,z⟩,by rw[b.out];exact⟨_,rfl⟩⟩ (by rw[b.out];simp);have c:=Lv (Jm lb (W.heap.size+1+1) W.heap.size (λk o=>Z k o\/k=lb) W4 ⟨5,some ⟨u.heap.size,0,none⟩,1,[0]⟩ (J ([]++[⟨5,some ⟨u.heap.size,0,none⟩,1,[0]⟩])) s.out p);clear p m;refine⟨trivial,rfl,c.out.mono ?_⟩;clear c;rintro e W5 ⟨⟨_,rfl⟩,m,g⟩;replace l:=(g).row l zN.out;replace s:=Lv (s.out.kg (g));clear g;have ct:=l.cellv (i:=0) (v:=.int .i64 _) rfl;gi_wp2_with fail
  obtain⟨W6,ak⟩:∃V,V=(W5).alloc (.cells #[.int .i64 0] 3):=⟨_,rfl⟩;have ai:Below (W5).heap.size W5 W6:=by rw[ak];exact(Below.refl _ _).alloc (Nat.le_refl _) _
  have am:Rd W6 (some ⟨(W5).heap.size,0,none⟩) (Qj [0]):=by rw[ak];exact Z5 _ _ _
  have ao:IntB W6 (some ⟨(W5).heap.size,0,none⟩):=λa e=>by injection e with e;subst e;rw[ak];exact⟨_,Row.new _ _ _⟩
  rw[<-ak];clear ak;replace m:=QI HJ.out m ai;clear ct;replace l:=((KpG.of_below (Z:=λk o=>Z k o\/k=lb) ai)).row l zN.out;replace s:=Lv (s.out.kg ((KpG.of_below (Z:=λk o=>Z k o\/k=lb) ai)));have p:=HY.out [⟨5,some ⟨u.heap.size,0,none⟩,1,[0]⟩] ⟨6,some ⟨W5.heap.size,0,none⟩,1,[0]⟩ W6 m ⟨⟨am,by simp,ao⟩,by rw[b.out];exact⟨_,rfl⟩⟩ (by rw[b.out];simp);have c:=Lv (Jm lb (W.heap.size+1+1) W.heap.size (λk o=>Z k o\/k=lb) W6 ⟨6,some ⟨W5.heap.size,0,none⟩,1,[0]⟩ (J ([⟨5,some ⟨u.heap.size,0,none⟩,1,[0]⟩]++[⟨6,some ⟨W5.heap.size,0,none⟩,1,[0]⟩])) s.out p);clear p m;refine⟨trivial,rfl,c.out.mono ?_⟩;clear c;rintro e W7 ⟨⟨_,rfl⟩,m,g⟩;replace l:=(g).row l zN.out;replace s:=Lv (s.out.kg (g));clear g ab j aa am ai;have ct:=l.cellv (i:=0) (v:=.int .i64 _) rfl;have cn:=l.cellv (i:=1) (v:=.int .i64 nn) rfl;clear l;gi_wp2_with fail
  go_end0
  exact⟨⟨_,rfl⟩,.inl ⟨_,by rw[b.out];rfl,m⟩⟩
 ·skip;have b:=Lv d;clear d;gi_wp2_with fail
  rw[<-ae.out];have l:=RN.out;have aa:=af.out;have ah:=B3.out;have m:=ac.out;clear ae RN af B3 ac H0 cl e0 e1;obtain⟨W4,q⟩:∃V,V=(u).alloc (.cells #[.int .i64 0] 3):=⟨_,rfl⟩;have j:Below (u).heap.size u W4:=by rw[q];exact(Below.refl _ _).alloc (Nat.le_refl _) _
  have ab:Rd W4 (some ⟨(u).heap.size,0,none⟩) (Qj [0]):=by rw[q];exact Z5 _ _ _
  have z:IntB W4 (some ⟨(u).heap.size,0,none⟩):=λa e=>by injection e with e;subst e;rw[q];exact⟨_,Row.new _ _ _⟩
  rw[<-q];clear q;rw[<-aa];replace m:=QI HJ.out m j;replace l:=((KpG.of_below (Z:=λk o=>Z k o\/k=lb) j)).row l zN.out;replace s:=Lv (s.out.kg ((KpG.of_below (Z:=λk o=>Z k o\/k=lb) j)));have p:=HY.out [] ⟨5,some ⟨u.heap.size,0,none⟩,1,[0]⟩ W4 m ⟨⟨ab,by simp,z⟩,by rw[b.out];exact⟨_,rfl⟩⟩ (by rw[b.out];simp);have c:=Lv (Jm lb (W.heap.size+1+1) W.heap.size (λk o=>Z k o\/k=lb) W4 ⟨5,some ⟨u.heap.size,0,none⟩,1,[0]⟩ (J ([]++[⟨5,some ⟨u.heap.size,0,none⟩,1,[0]⟩])) s.out p);clear p m;refine⟨trivial,rfl,c.out.mono ?_⟩;clear c;rintro e W5 ⟨⟨_,rfl⟩,m,g⟩;replace l:=(g).row l zN.out;replace s:=Lv (s.out.kg (g));clear g;have ct:=l.cellv (i:=0) (v:=.int .i64 _) rfl;gi_wp2_with fail
  obtain⟨W6,ak⟩:∃V,V=(W5).alloc (.cells #[.int .i64 0] 3):=⟨_,rfl⟩;have ai:Below (W5).heap.size W5 W6:=by rw[ak];exact(Below.refl _ _).alloc (Nat.le_refl _) _
  have am:Rd W6 (some ⟨(W5).heap.size,0,none⟩) (Qj [0]):=by rw[ak];exact Z5 _ _ _
  have ao:IntB W6 (some ⟨(W5).heap.size,0,none⟩):=λa e=>by injection e with e;subst e;rw[ak];exact⟨_,Row.new _ _ _⟩
  rw[<-ak];clear ak;replace m:=QI HJ.out m ai;clear ct;replace l:=((KpG.of_below (Z:=λk o=>Z k o\/k=lb) ai)).row l zN.out;replace s:=Lv (s.out.kg ((KpG.of_below (Z:=λk o=>Z k o\/k=lb) ai)));have p:=HY.out [⟨5,some ⟨u.heap.size,0,none⟩,1,[0]⟩] ⟨6,some ⟨W5.heap.size,0,none⟩,1,[0]⟩ W6 m ⟨⟨am,by simp,ao⟩,by rw[b.out];exact⟨_,rfl⟩⟩ (by rw[b.out];simp);have c:=Lv (Jm lb (W.heap.size+1+1) W.heap.size (λk o=>Z k o\/k=lb) W6 ⟨6,some ⟨W5.heap.size,0,none⟩,1,[0]⟩ (J ([⟨5,some ⟨u.heap.size,0,none⟩,1,[0]⟩]++[⟨6,some ⟨W5.heap.size,0,none⟩,1,[0]⟩])) s.out p);clear p m;refine⟨trivial,rfl,c.out.mono ?_⟩;clear c;rintro e W7 ⟨⟨_,rfl⟩,m,g⟩;replace l:=(g).row l zN.out;replace s:=Lv (s.out.kg (g));clear g ab j aa am ai;have ct:=l.cellv (i:=0) (v:=.int .i64 _) rfl;have cn:=l.cellv (i:=1) (v:=.int .i64 nn) rfl;clear l;gi_wp2_with fail
  go_end0
  exact⟨⟨_,rfl⟩,.inl ⟨_,by rw[b.out];rfl,m⟩⟩
 ·skip;have b:=Lv d;clear d;gi_wp2_with fail
  rw[<-ae.out];have l:=RN.out;have aa:=af.out;have ah:=B3.out;have m:=ac.out;clear ae RN af B3 ac H0 cl e0 e1;obtain⟨W4,q⟩:∃V,V=(u).alloc (.cells #[.int .i64 (wrap64 (1-nn))] 3):=⟨_,rfl⟩;have j:Below (u).heap.size u W4:=by rw[q];exact(Below.refl _ _).alloc (Nat.le_refl _) _
  have ab:Rd W4 (some ⟨(u).heap.size,0,none⟩) (Qj [wrap64 (1-nn)]):=by rw[q];exact Z5 _ _ _
  have z:IntB W4 (some ⟨(u).heap.size,0,none⟩):=λa e=>by injection e with e;subst e;rw[q];exact⟨_,Row.new _ _ _⟩
  rw[<-q];clear q;rw[<-aa];replace m:=QI HJ.out m j;replace l:=((KpG.of_below (Z:=λk o=>Z k o\/k=lb) j)).row l zN.out;replace s:=Lv (s.out.kg ((KpG.of_below (Z:=λk o=>Z k o\/k=lb) j)));have p:=HY.out [] ⟨4,some ⟨u.heap.size,0,none⟩,1,[wrap64 (1-nn)]⟩ W4 m ⟨⟨ab,by simp,z⟩,by rw[b.out];exact⟨_,rfl⟩⟩ (by rw[b.out];simp);have c:=Lv (Jm lb (W.heap.size+1+1) W.heap.size (λk o=>Z k o\/k=lb) W4 ⟨4,some ⟨u.heap.size,0,none⟩,1,[wrap64 (1-nn)]⟩ (J ([]++[⟨4,some ⟨u.heap.size,0,none⟩,1,[wrap64 (1-nn)]⟩])) s.out p);clear p m;refine⟨trivial,rfl,c.out.mono ?_⟩;clear c;rintro e W5 ⟨⟨_,rfl⟩,m,g⟩;replace l:=(g).row l zN.out;replace s:=Lv (s.out.kg (g));clear g ab j aa;have ct:=l.cellv (i:=0) (v:=.int .i64 _) rfl;have cn:=l.cellv (i:=1) (v:=.int .i64 nn) rfl;clear l;gi_wp2_with fail
  go_end0
  exact⟨⟨_,rfl⟩,.inl ⟨_,by rw[b.out];rfl,m⟩⟩
 ·skip;have b:=Lv d;clear d;gi_wp2_with fail
  rw[<-ae.out];have l:=RN.out;have aa:=af.out;have ah:=B3.out;have m:=ac.out;clear ae RN af B3 ac H0 cl e0 e1;obtain⟨a0,aq⟩:∃V,V=u.alloc (.cells #[.int .i64 0,.int .i64 1,.int .i64 (-1),.int .i64 (wrap64 (nn+1)),.int .i64 (wrap64 (nn-1))] 3):=⟨_,rfl⟩;have rS:Row a0 u.heap.size 3 (Qj [0,1, -1,wrap64 (nn+1),wrap64 (nn-1)]).toArray:=by rw[aq];exact Row.new _ _ _
  have bS:Below u.heap.size u a0:=by rw[aq];exact(Below.refl _ _).alloc (Nat.le_refl _) _
  rw[<-aq, <-aa];clear aq;refine⟨trivial,rfl,(callsIn_wide.2 (AeF u.heap.size 5 u.heap.size nn [0,1, -1,wrap64 (nn+1),wrap64 (nn-1)] a0 rS (by simp) (by simp) (by unfold maxLen;omega) (Nat.le_refl _))).mono ?_⟩;rintro e W4 ⟨A4,c4,rfl,aj,ag,bX,z⟩;have j:=bS.trans bX;replace m:=QI HJ.out m j;replace l:=((KpG.of_below (Z:=λk o=>Z k o\/k=lb) j)).row l zN.out;replace s:=Lv (s.out.kg ((KpG.of_below (Z:=λk o=>Z k o\/k=lb) j)));clear aa rS bS bX;gi_wp2_with fail
  have p:=HY.out [] ⟨4,A4,c4,(Ka nn [0,1, -1,wrap64 (nn+1),wrap64 (nn-1)])⟩ W4 m ⟨⟨aj,ag,z⟩,by rw[b.out];exact⟨_,rfl⟩⟩ (by rw[b.out];simp);have c:=Lv (Jm lb (W.heap.size+1+1) W.heap.size (λk o=>Z k o\/k=lb) W4 ⟨4,A4,c4,(Ka nn [0,1, -1,wrap64 (nn+1),wrap64 (nn-1)])⟩ (J ([]++[⟨4,A4,c4,(Ka nn [0,1, -1,wrap64 (nn+1),wrap64 (nn-1)])⟩])) s.out p);clear p m;refine⟨trivial,rfl,c.out.mono ?_⟩;clear c;rintro e W5 ⟨⟨_,rfl⟩,m,g⟩;replace l:=(g).row l zN.out;replace s:=Lv (s.out.kg (g));clear g aj ag j;have ct:=l.cellv (i:=0) (v:=.int .i64 _) rfl;have cn:=l.cellv (i:=1) (v:=.int .i64 nn) rfl;clear l;gi_wp2_with fail
  go_end0
  exact⟨⟨_,rfl⟩,.inl ⟨_,by rw[b.out];rfl,m⟩⟩
 ·skip;have b:=Lv d;clear d;gi_wp2_with fail
  rw[<-ae.out];have l:=RN.out;have aa:=af.out;have ah:=B3.out;have m:=ac.out;clear ae RN af B3 ac H0 cl e0 e1;obtain⟨W4,q⟩:∃V,V=(u).alloc (.cells #[.int .i64 0] 3):=⟨_,rfl⟩;have j:Below (u).heap.size u W4:=by rw[q];exact(Below.refl _ _).alloc (Nat.le_refl _) _
  have ab:Rd W4 (some ⟨(u).heap.size,0,none⟩) (Qj [0]):=by rw[q];exact Z5 _ _ _
  have z:IntB W4 (some ⟨(u).heap.size,0,none⟩):=λa e=>by injection e with e;subst e;rw[q];exact⟨_,Row.new _ _ _⟩
  rw[<-q];clear q;rw[<-aa];replace m:=QI HJ.out m j;replace l:=((KpG.of_below (Z:=λk o=>Z k o\/k=lb) j)).row l zN.out;replace s:=Lv (s.out.kg ((KpG.of_below (Z:=λk o=>Z k o\/k=lb) j)));have p:=HY.out [] ⟨5,some ⟨u.heap.size,0,none⟩,1,[0]⟩ W4 m ⟨⟨ab,by simp,z⟩,by rw[b.out];exact⟨_,rfl⟩⟩ (by rw[b.out];simp);have c:=Lv (Jm lb (W.heap.size+1+1) W.heap.size (λk o=>Z k o\/k=lb) W4 ⟨5,some ⟨u.heap.size,0,none⟩,1,[0]⟩ (J ([]++[⟨5,some ⟨u.heap.size,0,none⟩,1,[0]⟩])) s.out p);clear p m;refine⟨trivial,rfl,c.out.mono ?_⟩;clear c;rintro e W5 ⟨⟨_,rfl⟩,m,g⟩;replace l:=(g).row l zN.out;replace s:=Lv (s.out.kg (g))
  have a4:∀k o,k<w.heap.size->k≠Rb->¬(Z k o\/k=lb):=λk o h1 h2 h=>by
   rcases h with h|h
   ·exact HC.out.z1 k o h1 h2 h
   ·have:=HL.out.1;omega
  have bd:=g.row (HC.out.rl.below (HB.out.trans (ah.trans (j.mono ah.size) |>.mono HB.out.size)) HC.out.rl.lt) (a4 _ _ HC.out.rl.lt HC.out.bn);have bi:((⟨25,nn⟩::ys:List Nd).flatMap Nd.cells)≠[]:=by simp[Nd.cells]
  have a9:=g.rd (HC.out.hr.go (HB.out.trans (ah.trans (j.mono ah.size) |>.mono HB.out.size))) (λhn a e o=>a4 _ _ (X3 HC.out.hr hn e) (HC.out.an a e))
  obtain⟨y,ay,rfl⟩:∃y ay,ys=y::ay:=by
   cases ys with
   |nil=>exact absurd rfl (HC.out.h25 rfl)
   |cons y ay=>exact⟨y,ay,rfl⟩
  obtain⟨be,au,av⟩:=JG a9 (k:=1) (x:=y) rfl;obtain rfl:ad=be:=by rw[a5.out]at au;injection au
  have a6:=bd.cellv (i:=0) (v:=.slice A n cap) rfl;rw[a5.out]at a6;have bf:W5.cell? ⟨ad.block,ad.off+2,none⟩=some (.int .i64 y.tag):=by have:=av 0 _ rfl;rw[Nat.one_mul,KW]at this;exact this
  have bg:W5.cell? ⟨ad.block,ad.off+2+1,none⟩=some (.int .i64 y.n):=by have:=av 1 _ rfl;rw[Nat.one_mul]at this;exact this
  have bk:(1:Int)<(n:Int):=by have:=HC.out.hn;rw[this];simp;omega
  clear g ab j aa ah a4 bd bi a9 au av;have ct:=l.cellv (i:=0) (v:=.int .i64 25) rfl;gi_wp2_with fail
  refine⟨trivial,rfl,(callsIn_wide.2 (AdJ y W5)).mono ?_⟩;rintro e W6 ⟨A6,c6,rfl,bb,az,ai,ao⟩;replace m:=QI HJ.out m ai;clear ct a6 bf bg;replace l:=((KpG.of_below (Z:=λk o=>Z k o\/k=lb) ai)).row l zN.out;replace s:=Lv (s.out.kg ((KpG.of_below (Z:=λk o=>Z k o\/k=lb) ai)));gi_wp2_with fail
  have p:=HY.out [⟨5,some ⟨u.heap.size,0,none⟩,1,[0]⟩] ⟨7,A6,c6,(Zo y)⟩ W6 m ⟨⟨bb,az,ao⟩,by rw[b.out];exact⟨_,rfl⟩⟩ (by rw[b.out];simp);have c:=Lv (Jm lb (W.heap.size+1+1) W.heap.size (λk o=>Z k o\/k=lb) W6 ⟨7,A6,c6,(Zo y)⟩ (J ([⟨5,some ⟨u.heap.size,0,none⟩,1,[0]⟩]++[⟨7,A6,c6,(Zo y)⟩])) s.out p);clear p m;refine⟨trivial,rfl,c.out.mono ?_⟩;clear c;rintro e W7 ⟨⟨_,rfl⟩,m,g⟩;replace l:=(g).row l zN.out;replace s:=Lv (s.out.kg (g));clear g bb az ai;have ct:=l.cellv (i:=0) (v:=.int .i64 _) rfl;have cn:=l.cellv (i:=1) (v:=.int .i64 nn) rfl;clear l;gi_wp2_with fail
  go_end0
  exact⟨⟨_,rfl⟩,.inl ⟨_,by rw[b.out];rfl,m⟩⟩
 all_goals
  have b:=Lv d
  clear d
  gi_wp2_with fail
  go_end0
  exact⟨⟨_,rfl⟩,.inl ⟨[],by rw[b.out];rfl,by rw[<-ae.out];exact ac.out⟩⟩
theorem AfX (A:Option Addr)(cap n bl Rb:Nat)(x:Nd)(ys:List Nd)(Z:Nat->Obj->Prop)(w:World)(hC:ListsC A cap n bl Rb x ys Z w)(h1:1<=x.tag)(h2:x.tag<=26):
 Aae Tryz.prog 283 #[.pointer (some ⟨bl,0,none⟩)] LsX.enc (λ_=>False) (λlb=>KpG (λk o=>Z k o\/k=lb)) (LsP (Ko x (ys.headD ⟨0,0⟩))) (λxs=>xs.map LsX.f=Ko x (ys.headD ⟨0,0⟩)) (λ_=>True) (Ko x (ys.headD ⟨0,0⟩)).length False w:=by
 obtain⟨tag,d⟩:=x;simp only at h1 h2;refine AhX A cap n bl Rb tag d ys Z w hC _ ?_;by_cases a:7<=tag/\tag<=11
 ·exact .inl ⟨a.1,a.2,by simp[Ko,a,show ¬tag=21 by omega,show ¬tag=22 by omega,show ¬tag=23 by omega,show ¬tag=24 by omega,show ¬tag=25 by omega]⟩
 by_cases b:12<=tag/\tag<=17
 ·exact .inr (.inl ⟨b.1,b.2,by simp[Ko,a,b,show ¬tag=21 by omega,show ¬tag=22 by omega,show ¬tag=23 by omega,show ¬tag=24 by omega,show ¬tag=25 by omega]⟩)
 have c:tag=1\/tag=2\/tag=3\/tag=4\/tag=5\/tag=6\/tag=18\/tag=19\/tag=20\/tag=21\/tag=22\/tag=23\/tag=24\/tag=25\/tag=26:=by omega
 rcases c with rfl|rfl|rfl|rfl|rfl|rfl|rfl|rfl|rfl|rfl|rfl|rfl|rfl|rfl|rfl
 all_goals simp[Ko]
end Go.Proofs.YtgnmkiafeplbpaaGreatDoor
