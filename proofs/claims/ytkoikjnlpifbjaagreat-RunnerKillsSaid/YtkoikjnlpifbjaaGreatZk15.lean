/- Lemmas for RunnerKillsP. -/
import Derived.Test.YtkoikjnlpifbjaaGreatZk1
import Derived.Test.YtkoikjnlpifbjaaGreatZk14
set_option linter.unusedVariables false
set_option linter.unusedSimpArgs false
set_option maxRecDepth 100000
set_option maxHeartbeats 16000000
namespace Go.Proofs.YtkoikjnlpifbjaaGreat
open Go.RowKit Go.Deep
attribute [local go_sem] Oper.semAt_some
theorem AgW (A:Option Addr)(cap n bl Rb:Nat)(tag:Int)(nn:Int)(ys:List Nd)(Z:Nat->Obj->Prop)(w:World)(hC:ListsC A cap n bl Rb ⟨tag,nn⟩ ys Z w)(full:List (Int×List Int))
 (hc:(7<=tag/\tag<=11/\full=[(1,JE 7 11 tag)])\/(12<=tag/\tag<=17/\full=[(2,JE 12 17 tag)])\/(tag=18/\full=[(3,JE 18 19 18)])\/(tag=19/\full=[(3,JE 18 19 19)])\/((tag=21\/tag=22)/\full=[(5,[0])])\/((tag=23\/tag=24)/\full=[(5,[0]),(6,[0])])\/(tag=2/\full=[(4,[wrap64 (1-nn)])])\/
  (tag=1/\full=[(4,Kf nn [0,1, -1,wrap64 (nn+1),wrap64 (nn-1)])])\/(tag=25/\full=[(5,[0]),(7,ZI (ys.headD ⟨0,0⟩))])\/((tag=3\/tag=4\/tag=5\/tag=6\/tag=20\/tag=26)/\full=[])):
 Ej Tryz.prog 210 #[.pointer (some ⟨bl,0,none⟩)] LsX.enc (λ_=>False) (λlb=>KpG (λk o=>Z k o\/k=lb)) (LsP full) (λxs=>xs.map LsX.f=full) (λ_=>True) full.length False w:=by
 intro lb J Jx W a9 au ax hJ bi hY h0;replace ax:∀am W',¬Jx am W':=ax.resolve_left id;have a8:Below w.heap.size w W:=⟨au.os,au.tape,au.output,au.size,λk hk=>au.block k hk (by simp)⟩;have HC:=Lh hC;have HB:=Lh a8;have HL:=Lh a9;have HJ:=Lh hJ
 have HY:Hid (∀am (x:LsX) W1,J am W1->LsP full am x W1->am.length<full.length->YieldAt Fence.wide 0 Tryz.prog lb x.enc W1 λe W'=>e=.returned (.bool true)/\J (am++[x]) W'/\KpG (λk o=>Z k o\/k=lb) W1 W'):=λam x W1 h1 h2 h3=>(hY am x W1 h1 h2 h3).mono λe W' h=>by
  rcases h with h|⟨_,h,_⟩
  ·exact h
  ·exact absurd h (ax _ _)
 clear hC a8 a9 hJ bi hY ax au;refine callsIn_of_wp Tryz.func210 rfl trivial ?_ rfl;simp only[Tryz.ntmps210,Lk,Lc,Lo,Nat.reduceAdd,Nat.reduceSub,Li,Lj,Lp,L5,Lm,Ll];obtain⟨W1,a2⟩:∃W1,W1=W.alloc (.cells #[.func (.yield lb) #[] #[]] 295):=⟨_,rfl⟩;have b1:Below W.heap.size W W1:=by rw[a2];exact(Below.refl _ _).alloc (Nat.le_refl _) _
 have bd:=(HC.out.rl.below HB.out HC.out.rl.lt).below b1 (Lg HC.out.rl.lt HB.out.size);have bb:=(HC.out.hr.go HB.out).go b1;obtain⟨ad,a3,a4⟩:=J6 bb (k:=0) (x:=⟨tag,nn⟩) rfl;have e0:W1.cell? ad=some (.int .i64 tag):=by have:=a4 0 _ rfl;rwa[Nat.zero_mul,XP,XP]at this
 have e1:W1.cell? ⟨ad.block,ad.off+1,none⟩=some (.int .i64 nn):=by have:=a4 1 _ rfl;rw[Nat.zero_mul,XP]at this;exact this
 have bk:(0:Int)<(n:Int):=by have:=HC.out.hn;rw[this];simp
 have cl:=bd.cellv (i:=0) (v:=.slice A n cap) rfl;rw[a3]at cl;rw[a2]at cl e0 e1;have a6:=Lh a3;clear a4 bb bd b1 a2 a3;obtain⟨z,aq⟩:∃z,z=((W.alloc (.cells #[.func (.yield lb) #[] #[]] 295)).alloc (.cells #[.int .i64 tag,.int .i64 nn] 65)).alloc (.cells #[.bool true] 4):=⟨_,rfl⟩
 have ay:∀k cs t fr,W.heap.size<=k->(t=295\/t=65\/t=4\/t=3)->¬(Z k (.cells cs t fr)\/k=lb):=λk cs t fr h1 h2 h=>by
  rcases h with h|h
  ·exact HC.out.z2 k cs t fr (by have:=HB.out.size;omega) h2 h
  ·have:=HL.out.2;omega
 have b3:Below W.heap.size W z:=by rw[aq];exact(((Below.refl _ _).alloc (Nat.le_refl _) _).alloc (by simp) _).alloc (by simp;omega) _
 have hT:TellC lb (W.heap.size+1+1) W.heap.size (λk o=>Z k o\/k=lb) z:=by
  refine⟨?_,?_,λcs fr=>ay _ _ _ _ (by omega) (by simp),λcs fr=>ay _ _ _ _ (by omega) (by simp)⟩
  ·rw[aq];have:=Row.new ((W.alloc (.cells #[.func (.yield lb) #[] #[]] 295)).alloc (.cells #[.int .i64 tag,.int .i64 nn] 65)) 4 #[.bool true];simpa using this
  ·rw[aq];exact((Row.new W 295 #[.func (.yield lb) #[] #[]]).alloc _).alloc _
 have m:Row z (W.heap.size+1) 65 #[.int .i64 tag,.int .i64 nn]:=by
  rw[aq];have:=(Row.new (W.alloc (.cells #[.func (.yield lb) #[] #[]] 295)) 65 #[.int .i64 tag,.int .i64 nn]).alloc (.cells #[.bool true] 4);simpa using this
 have p:=QI HJ.out h0 b3;have ab:z.heap.size=W.heap.size+1+1+1:=by rw[aq];simp
 have zN:Hid (¬(Z (W.heap.size+1) (.cells #[.int .i64 tag,.int .i64 nn] 65 (0,0))\/W.heap.size+1=lb)):=ay _ _ _ _ (by omega) (by simp);have u:=Lh hT;have RN:=Lh m;have ag:=Lh ab;have B3:=Lh b3;have ae:=Lh p;have af:=Lh aq;have H0:=Lh h0;clear ay b3 hT m ab p aq h0;rcases hc with⟨h1,h2,g⟩|⟨h1,h2,g⟩|⟨rfl,g⟩|⟨rfl,g⟩|⟨rfl|rfl,g⟩|⟨rfl|rfl,g⟩|⟨rfl,g⟩|⟨rfl,g⟩|⟨rfl,g⟩|⟨rfl|rfl|rfl|rfl|rfl|rfl,g⟩
 ·skip;have c:=Lh g;clear g;gi_wp2_with fail
  rw[<-af.out];have m:=RN.out;have ab:=ag.out;have ai:=B3.out;have p:=ae.out;clear af RN ag B3 ae H0 cl e0 e1;refine⟨trivial,rfl,(callsIn_wide.2 (Ef 7 11 tag z (by omega) (by omega) (by omega))).mono ?_⟩;rintro e W4 ⟨A4,c4,rfl,ak,ah,l,aa⟩;replace p:=QI HJ.out p l;replace m:=((KpG.of_below (Z:=λk o=>Z k o\/k=lb) l)).row m zN.out;replace u:=Lh (u.out.kg ((KpG.of_below (Z:=λk o=>Z k o\/k=lb) l)));clear ab;gi_wp2_with fail
  have q:=HY.out [] ⟨1,A4,c4,(JE 7 11 tag)⟩ W4 p ⟨⟨ak,ah,aa⟩,by rw[c.out];exact⟨_,rfl⟩⟩ (by rw[c.out];simp);have d:=Lh (JA lb (W.heap.size+1+1) W.heap.size (λk o=>Z k o\/k=lb) W4 ⟨1,A4,c4,(JE 7 11 tag)⟩ (J ([]++[⟨1,A4,c4,(JE 7 11 tag)⟩])) u.out q);clear q p;refine⟨trivial,rfl,d.out.mono ?_⟩;clear d;rintro e W5 ⟨⟨_,rfl⟩,p,j⟩;replace m:=(j).row m zN.out;replace u:=Lh (u.out.kg (j));clear j ak ah l;have ct:=m.cellv (i:=0) (v:=.int .i64 _) rfl;have cn:=m.cellv (i:=1) (v:=.int .i64 nn) rfl;clear m;gi_wp2_with fail
  go_end0
  exact⟨⟨_,rfl⟩,.inl ⟨_,by rw[c.out];rfl,p⟩⟩
 ·skip;have c:=Lh g;clear g;gi_wp2_with fail
  rw[<-af.out];have m:=RN.out;have ab:=ag.out;have ai:=B3.out;have p:=ae.out;clear af RN ag B3 ae H0 cl e0 e1;refine⟨trivial,rfl,(callsIn_wide.2 (Ef 12 17 tag z (by omega) (by omega) (by omega))).mono ?_⟩;rintro e W4 ⟨A4,c4,rfl,ak,ah,l,aa⟩;replace p:=QI HJ.out p l;replace m:=((KpG.of_below (Z:=λk o=>Z k o\/k=lb) l)).row m zN.out;replace u:=Lh (u.out.kg ((KpG.of_below (Z:=λk o=>Z k o\/k=lb) l)));clear ab;gi_wp2_with fail
  have q:=HY.out [] ⟨2,A4,c4,(JE 12 17 tag)⟩ W4 p ⟨⟨ak,ah,aa⟩,by rw[c.out];exact⟨_,rfl⟩⟩ (by rw[c.out];simp);have d:=Lh (JA lb (W.heap.size+1+1) W.heap.size (λk o=>Z k o\/k=lb) W4 ⟨2,A4,c4,(JE 12 17 tag)⟩ (J ([]++[⟨2,A4,c4,(JE 12 17 tag)⟩])) u.out q);clear q p;refine⟨trivial,rfl,d.out.mono ?_⟩;clear d;rintro e W5 ⟨⟨_,rfl⟩,p,j⟩;replace m:=(j).row m zN.out;replace u:=Lh (u.out.kg (j));clear j ak ah l;have ct:=m.cellv (i:=0) (v:=.int .i64 _) rfl;have cn:=m.cellv (i:=1) (v:=.int .i64 nn) rfl;clear m;gi_wp2_with fail
  go_end0
  exact⟨⟨_,rfl⟩,.inl ⟨_,by rw[c.out];rfl,p⟩⟩
 ·skip;have c:=Lh g;clear g;gi_wp2_with fail
  rw[<-af.out];have m:=RN.out;have ab:=ag.out;have ai:=B3.out;have p:=ae.out;clear af RN ag B3 ae H0 cl e0 e1;refine⟨trivial,rfl,(callsIn_wide.2 (Ef 18 19 18 z (by omega) (by omega) (by omega))).mono ?_⟩;rintro e W4 ⟨A4,c4,rfl,ak,ah,l,aa⟩;replace p:=QI HJ.out p l;replace m:=((KpG.of_below (Z:=λk o=>Z k o\/k=lb) l)).row m zN.out;replace u:=Lh (u.out.kg ((KpG.of_below (Z:=λk o=>Z k o\/k=lb) l)));clear ab;gi_wp2_with fail
  have q:=HY.out [] ⟨3,A4,c4,(JE 18 19 18)⟩ W4 p ⟨⟨ak,ah,aa⟩,by rw[c.out];exact⟨_,rfl⟩⟩ (by rw[c.out];simp);have d:=Lh (JA lb (W.heap.size+1+1) W.heap.size (λk o=>Z k o\/k=lb) W4 ⟨3,A4,c4,(JE 18 19 18)⟩ (J ([]++[⟨3,A4,c4,(JE 18 19 18)⟩])) u.out q);clear q p;refine⟨trivial,rfl,d.out.mono ?_⟩;clear d;rintro e W5 ⟨⟨_,rfl⟩,p,j⟩;replace m:=(j).row m zN.out;replace u:=Lh (u.out.kg (j));clear j ak ah l;have ct:=m.cellv (i:=0) (v:=.int .i64 _) rfl;have cn:=m.cellv (i:=1) (v:=.int .i64 nn) rfl;clear m;gi_wp2_with fail
  go_end0
  exact⟨⟨_,rfl⟩,.inl ⟨_,by rw[c.out];rfl,p⟩⟩
 ·skip;have c:=Lh g;clear g;gi_wp2_with fail
  rw[<-af.out];have m:=RN.out;have ab:=ag.out;have ai:=B3.out;have p:=ae.out;clear af RN ag B3 ae H0 cl e0 e1;refine⟨trivial,rfl,(callsIn_wide.2 (Ef 18 19 19 z (by omega) (by omega) (by omega))).mono ?_⟩;rintro e W4 ⟨A4,c4,rfl,ak,ah,l,aa⟩;replace p:=QI HJ.out p l;replace m:=((KpG.of_below (Z:=λk o=>Z k o\/k=lb) l)).row m zN.out;replace u:=Lh (u.out.kg ((KpG.of_below (Z:=λk o=>Z k o\/k=lb) l)));clear ab;gi_wp2_with fail
  have q:=HY.out [] ⟨3,A4,c4,(JE 18 19 19)⟩ W4 p ⟨⟨ak,ah,aa⟩,by rw[c.out];exact⟨_,rfl⟩⟩ (by rw[c.out];simp);have d:=Lh (JA lb (W.heap.size+1+1) W.heap.size (λk o=>Z k o\/k=lb) W4 ⟨3,A4,c4,(JE 18 19 19)⟩ (J ([]++[⟨3,A4,c4,(JE 18 19 19)⟩])) u.out q);clear q p;refine⟨trivial,rfl,d.out.mono ?_⟩;clear d;rintro e W5 ⟨⟨_,rfl⟩,p,j⟩;replace m:=(j).row m zN.out;replace u:=Lh (u.out.kg (j));clear j ak ah l;have ct:=m.cellv (i:=0) (v:=.int .i64 _) rfl;have cn:=m.cellv (i:=1) (v:=.int .i64 nn) rfl;clear m;gi_wp2_with fail
  go_end0
  exact⟨⟨_,rfl⟩,.inl ⟨_,by rw[c.out];rfl,p⟩⟩
 ·skip;have c:=Lh g;clear g;gi_wp2_with fail
  rw[<-af.out];have m:=RN.out;have ab:=ag.out;have ai:=B3.out;have p:=ae.out;clear af RN ag B3 ae H0 cl e0 e1;obtain⟨W4,s⟩:∃V,V=(z).alloc (.cells #[.int .i64 0] 3):=⟨_,rfl⟩;have l:Below (z).heap.size z W4:=by rw[s];exact(Below.refl _ _).alloc (Nat.le_refl _) _
  have ac:Rd W4 (some ⟨(z).heap.size,0,none⟩) (Qi [0]):=by rw[s];exact Jl _ _ _
  have aa:IntB W4 (some ⟨(z).heap.size,0,none⟩):=λa e=>by injection e with e;subst e;rw[s];exact⟨_,Row.new _ _ _⟩
  rw[<-s];clear s;rw[<-ab];replace p:=QI HJ.out p l;replace m:=((KpG.of_below (Z:=λk o=>Z k o\/k=lb) l)).row m zN.out;replace u:=Lh (u.out.kg ((KpG.of_below (Z:=λk o=>Z k o\/k=lb) l)));have q:=HY.out [] ⟨5,some ⟨z.heap.size,0,none⟩,1,[0]⟩ W4 p ⟨⟨ac,by simp,aa⟩,by rw[c.out];exact⟨_,rfl⟩⟩ (by rw[c.out];simp);have d:=Lh (JA lb (W.heap.size+1+1) W.heap.size (λk o=>Z k o\/k=lb) W4 ⟨5,some ⟨z.heap.size,0,none⟩,1,[0]⟩ (J ([]++[⟨5,some ⟨z.heap.size,0,none⟩,1,[0]⟩])) u.out q);clear q p;refine⟨trivial,rfl,d.out.mono ?_⟩;clear d;rintro e W5 ⟨⟨_,rfl⟩,p,j⟩;replace m:=(j).row m zN.out;replace u:=Lh (u.out.kg (j));clear j ac l ab ai;have ct:=m.cellv (i:=0) (v:=.int .i64 _) rfl;have cn:=m.cellv (i:=1) (v:=.int .i64 nn) rfl;clear m;gi_wp2_with fail
  go_end0
  exact⟨⟨_,rfl⟩,.inl ⟨_,by rw[c.out];rfl,p⟩⟩
 ·skip;have c:=Lh g;clear g;gi_wp2_with fail
  rw[<-af.out];have m:=RN.out;have ab:=ag.out;have ai:=B3.out;have p:=ae.out;clear af RN ag B3 ae H0 cl e0 e1;obtain⟨W4,s⟩:∃V,V=(z).alloc (.cells #[.int .i64 0] 3):=⟨_,rfl⟩;have l:Below (z).heap.size z W4:=by rw[s];exact(Below.refl _ _).alloc (Nat.le_refl _) _
  have ac:Rd W4 (some ⟨(z).heap.size,0,none⟩) (Qi [0]):=by rw[s];exact Jl _ _ _
  have aa:IntB W4 (some ⟨(z).heap.size,0,none⟩):=λa e=>by injection e with e;subst e;rw[s];exact⟨_,Row.new _ _ _⟩
  rw[<-s];clear s;rw[<-ab];replace p:=QI HJ.out p l;replace m:=((KpG.of_below (Z:=λk o=>Z k o\/k=lb) l)).row m zN.out;replace u:=Lh (u.out.kg ((KpG.of_below (Z:=λk o=>Z k o\/k=lb) l)));have q:=HY.out [] ⟨5,some ⟨z.heap.size,0,none⟩,1,[0]⟩ W4 p ⟨⟨ac,by simp,aa⟩,by rw[c.out];exact⟨_,rfl⟩⟩ (by rw[c.out];simp);have d:=Lh (JA lb (W.heap.size+1+1) W.heap.size (λk o=>Z k o\/k=lb) W4 ⟨5,some ⟨z.heap.size,0,none⟩,1,[0]⟩ (J ([]++[⟨5,some ⟨z.heap.size,0,none⟩,1,[0]⟩])) u.out q);clear q p;refine⟨trivial,rfl,d.out.mono ?_⟩;clear d;rintro e W5 ⟨⟨_,rfl⟩,p,j⟩;replace m:=(j).row m zN.out;replace u:=Lh (u.out.kg (j));clear j ac l ab ai;have ct:=m.cellv (i:=0) (v:=.int .i64 _) rfl;have cn:=m.cellv (i:=1) (v:=.int .i64 nn) rfl;clear m;gi_wp2_with fail
  go_end0
  exact⟨⟨_,rfl⟩,.inl ⟨_,by rw[c.out];rfl,p⟩⟩
 ·skip;have c:=Lh g;clear g;gi_wp2_with fail
  rw[<-af.out];have m:=RN.out;have ab:=ag.out;have ai:=B3.out;have p:=ae.out;clear af RN ag B3 ae H0 cl e0 e1;obtain⟨W4,s⟩:∃V,V=(z).alloc (.cells #[.int .i64 0] 3):=⟨_,rfl⟩;have l:Below (z).heap.size z W4:=by rw[s];exact(Below.refl _ _).alloc (Nat.le_refl _) _
  have ac:Rd W4 (some ⟨(z).heap.size,0,none⟩) (Qi [0]):=by rw[s];exact Jl _ _ _
  have aa:IntB W4 (some ⟨(z).heap.size,0,none⟩):=λa e=>by injection e with e;subst e;rw[s];exact⟨_,Row.new _ _ _⟩
  rw[<-s];clear s;rw[<-ab];replace p:=QI HJ.out p l;replace m:=((KpG.of_below (Z:=λk o=>Z k o\/k=lb) l)).row m zN.out;replace u:=Lh (u.out.kg ((KpG.of_below (Z:=λk o=>Z k o\/k=lb) l)));have q:=HY.out [] ⟨5,some ⟨z.heap.size,0,none⟩,1,[0]⟩ W4 p ⟨⟨ac,by simp,aa⟩,by rw[c.out];exact⟨_,rfl⟩⟩ (by rw[c.out];simp);have d:=Lh (JA lb (W.heap.size+1+1) W.heap.size (λk o=>Z k o\/k=lb) W4 ⟨5,some ⟨z.heap.size,0,none⟩,1,[0]⟩ (J ([]++[⟨5,some ⟨z.heap.size,0,none⟩,1,[0]⟩])) u.out q);clear q p;refine⟨trivial,rfl,d.out.mono ?_⟩;clear d;rintro e W5 ⟨⟨_,rfl⟩,p,j⟩;replace m:=(j).row m zN.out;replace u:=Lh (u.out.kg (j));clear j;have ct:=m.cellv (i:=0) (v:=.int .i64 _) rfl;gi_wp2_with fail
  obtain⟨W6,al⟩:∃V,V=(W5).alloc (.cells #[.int .i64 0] 3):=⟨_,rfl⟩;have aj:Below (W5).heap.size W5 W6:=by rw[al];exact(Below.refl _ _).alloc (Nat.le_refl _) _
  have ao:Rd W6 (some ⟨(W5).heap.size,0,none⟩) (Qi [0]):=by rw[al];exact Jl _ _ _
  have ap:IntB W6 (some ⟨(W5).heap.size,0,none⟩):=λa e=>by injection e with e;subst e;rw[al];exact⟨_,Row.new _ _ _⟩
  rw[<-al];clear al;replace p:=QI HJ.out p aj;clear ct;replace m:=((KpG.of_below (Z:=λk o=>Z k o\/k=lb) aj)).row m zN.out;replace u:=Lh (u.out.kg ((KpG.of_below (Z:=λk o=>Z k o\/k=lb) aj)));have q:=HY.out [⟨5,some ⟨z.heap.size,0,none⟩,1,[0]⟩] ⟨6,some ⟨W5.heap.size,0,none⟩,1,[0]⟩ W6 p ⟨⟨ao,by simp,ap⟩,by rw[c.out];exact⟨_,rfl⟩⟩ (by rw[c.out];simp);have d:=Lh (JA lb (W.heap.size+1+1) W.heap.size (λk o=>Z k o\/k=lb) W6 ⟨6,some ⟨W5.heap.size,0,none⟩,1,[0]⟩ (J ([⟨5,some ⟨z.heap.size,0,none⟩,1,[0]⟩]++[⟨6,some ⟨W5.heap.size,0,none⟩,1,[0]⟩])) u.out q);clear q p;refine⟨trivial,rfl,d.out.mono ?_⟩;clear d;rintro e W7 ⟨⟨_,rfl⟩,p,j⟩;replace m:=(j).row m zN.out;replace u:=Lh (u.out.kg (j));clear j ac l ab ao aj;have ct:=m.cellv (i:=0) (v:=.int .i64 _) rfl;have cn:=m.cellv (i:=1) (v:=.int .i64 nn) rfl;clear m;gi_wp2_with fail
  go_end0
  exact⟨⟨_,rfl⟩,.inl ⟨_,by rw[c.out];rfl,p⟩⟩
 ·skip;have c:=Lh g;clear g;gi_wp2_with fail
  rw[<-af.out];have m:=RN.out;have ab:=ag.out;have ai:=B3.out;have p:=ae.out;clear af RN ag B3 ae H0 cl e0 e1;obtain⟨W4,s⟩:∃V,V=(z).alloc (.cells #[.int .i64 0] 3):=⟨_,rfl⟩;have l:Below (z).heap.size z W4:=by rw[s];exact(Below.refl _ _).alloc (Nat.le_refl _) _
  have ac:Rd W4 (some ⟨(z).heap.size,0,none⟩) (Qi [0]):=by rw[s];exact Jl _ _ _
  have aa:IntB W4 (some ⟨(z).heap.size,0,none⟩):=λa e=>by injection e with e;subst e;rw[s];exact⟨_,Row.new _ _ _⟩
  rw[<-s];clear s;rw[<-ab];replace p:=QI HJ.out p l;replace m:=((KpG.of_below (Z:=λk o=>Z k o\/k=lb) l)).row m zN.out;replace u:=Lh (u.out.kg ((KpG.of_below (Z:=λk o=>Z k o\/k=lb) l)));have q:=HY.out [] ⟨5,some ⟨z.heap.size,0,none⟩,1,[0]⟩ W4 p ⟨⟨ac,by simp,aa⟩,by rw[c.out];exact⟨_,rfl⟩⟩ (by rw[c.out];simp);have d:=Lh (JA lb (W.heap.size+1+1) W.heap.size (λk o=>Z k o\/k=lb) W4 ⟨5,some ⟨z.heap.size,0,none⟩,1,[0]⟩ (J ([]++[⟨5,some ⟨z.heap.size,0,none⟩,1,[0]⟩])) u.out q);clear q p;refine⟨trivial,rfl,d.out.mono ?_⟩;clear d;rintro e W5 ⟨⟨_,rfl⟩,p,j⟩;replace m:=(j).row m zN.out;replace u:=Lh (u.out.kg (j));clear j;have ct:=m.cellv (i:=0) (v:=.int .i64 _) rfl;gi_wp2_with fail
  obtain⟨W6,al⟩:∃V,V=(W5).alloc (.cells #[.int .i64 0] 3):=⟨_,rfl⟩;have aj:Below (W5).heap.size W5 W6:=by rw[al];exact(Below.refl _ _).alloc (Nat.le_refl _) _
  have ao:Rd W6 (some ⟨(W5).heap.size,0,none⟩) (Qi [0]):=by rw[al];exact Jl _ _ _
  have ap:IntB W6 (some ⟨(W5).heap.size,0,none⟩):=λa e=>by injection e with e;subst e;rw[al];exact⟨_,Row.new _ _ _⟩
  rw[<-al];clear al;replace p:=QI HJ.out p aj;clear ct;replace m:=((KpG.of_below (Z:=λk o=>Z k o\/k=lb) aj)).row m zN.out;replace u:=Lh (u.out.kg ((KpG.of_below (Z:=λk o=>Z k o\/k=lb) aj)));have q:=HY.out [⟨5,some ⟨z.heap.size,0,none⟩,1,[0]⟩] ⟨6,some ⟨W5.heap.size,0,none⟩,1,[0]⟩ W6 p ⟨⟨ao,by simp,ap⟩,by rw[c.out];exact⟨_,rfl⟩⟩ (by rw[c.out];simp);have d:=Lh (JA lb (W.heap.size+1+1) W.heap.size (λk o=>Z k o\/k=lb) W6 ⟨6,some ⟨W5.heap.size,0,none⟩,1,[0]⟩ (J ([⟨5,some ⟨z.heap.size,0,none⟩,1,[0]⟩]++[⟨6,some ⟨W5.heap.size,0,none⟩,1,[0]⟩])) u.out q);clear q p;refine⟨trivial,rfl,d.out.mono ?_⟩;clear d;rintro e W7 ⟨⟨_,rfl⟩,p,j⟩;replace m:=(j).row m zN.out;replace u:=Lh (u.out.kg (j));clear j ac l ab ao aj;have ct:=m.cellv (i:=0) (v:=.int .i64 _) rfl;have cn:=m.cellv (i:=1) (v:=.int .i64 nn) rfl;clear m;gi_wp2_with fail
  go_end0
  exact⟨⟨_,rfl⟩,.inl ⟨_,by rw[c.out];rfl,p⟩⟩
 ·skip;have c:=Lh g;clear g;gi_wp2_with fail
  rw[<-af.out];have m:=RN.out;have ab:=ag.out;have ai:=B3.out;have p:=ae.out;clear af RN ag B3 ae H0 cl e0 e1;obtain⟨W4,s⟩:∃V,V=(z).alloc (.cells #[.int .i64 (wrap64 (1-nn))] 3):=⟨_,rfl⟩;have l:Below (z).heap.size z W4:=by rw[s];exact(Below.refl _ _).alloc (Nat.le_refl _) _
  have ac:Rd W4 (some ⟨(z).heap.size,0,none⟩) (Qi [wrap64 (1-nn)]):=by rw[s];exact Jl _ _ _
  have aa:IntB W4 (some ⟨(z).heap.size,0,none⟩):=λa e=>by injection e with e;subst e;rw[s];exact⟨_,Row.new _ _ _⟩
  rw[<-s];clear s;rw[<-ab];replace p:=QI HJ.out p l;replace m:=((KpG.of_below (Z:=λk o=>Z k o\/k=lb) l)).row m zN.out;replace u:=Lh (u.out.kg ((KpG.of_below (Z:=λk o=>Z k o\/k=lb) l)));have q:=HY.out [] ⟨4,some ⟨z.heap.size,0,none⟩,1,[wrap64 (1-nn)]⟩ W4 p ⟨⟨ac,by simp,aa⟩,by rw[c.out];exact⟨_,rfl⟩⟩ (by rw[c.out];simp);have d:=Lh (JA lb (W.heap.size+1+1) W.heap.size (λk o=>Z k o\/k=lb) W4 ⟨4,some ⟨z.heap.size,0,none⟩,1,[wrap64 (1-nn)]⟩ (J ([]++[⟨4,some ⟨z.heap.size,0,none⟩,1,[wrap64 (1-nn)]⟩])) u.out q);clear q p;refine⟨trivial,rfl,d.out.mono ?_⟩;clear d;rintro e W5 ⟨⟨_,rfl⟩,p,j⟩;replace m:=(j).row m zN.out;replace u:=Lh (u.out.kg (j));clear j ac l ab;have ct:=m.cellv (i:=0) (v:=.int .i64 _) rfl;have cn:=m.cellv (i:=1) (v:=.int .i64 nn) rfl;clear m;gi_wp2_with fail
  go_end0
  exact⟨⟨_,rfl⟩,.inl ⟨_,by rw[c.out];rfl,p⟩⟩
 ·skip;have c:=Lh g;clear g;gi_wp2_with fail
  rw[<-af.out];have m:=RN.out;have ab:=ag.out;have ai:=B3.out;have p:=ae.out;clear af RN ag B3 ae H0 cl e0 e1;obtain⟨a1,ar⟩:∃V,V=z.alloc (.cells #[.int .i64 0,.int .i64 1,.int .i64 (-1),.int .i64 (wrap64 (nn+1)),.int .i64 (wrap64 (nn-1))] 3):=⟨_,rfl⟩;have rS:Row a1 z.heap.size 3 (Qi [0,1, -1,wrap64 (nn+1),wrap64 (nn-1)]).toArray:=by rw[ar];exact Row.new _ _ _
  have bS:Below z.heap.size z a1:=by rw[ar];exact(Below.refl _ _).alloc (Nat.le_refl _) _
  rw[<-ar, <-ab];clear ar;refine⟨trivial,rfl,(callsIn_wide.2 (AdT z.heap.size 5 z.heap.size nn [0,1, -1,wrap64 (nn+1),wrap64 (nn-1)] a1 rS (by simp) (by simp) (by unfold maxLen;omega) (Nat.le_refl _))).mono ?_⟩;rintro e W4 ⟨A4,c4,rfl,ak,ah,bX,aa⟩;have l:=bS.trans bX;replace p:=QI HJ.out p l;replace m:=((KpG.of_below (Z:=λk o=>Z k o\/k=lb) l)).row m zN.out;replace u:=Lh (u.out.kg ((KpG.of_below (Z:=λk o=>Z k o\/k=lb) l)));clear ab rS bS bX;gi_wp2_with fail
  have q:=HY.out [] ⟨4,A4,c4,(Kf nn [0,1, -1,wrap64 (nn+1),wrap64 (nn-1)])⟩ W4 p ⟨⟨ak,ah,aa⟩,by rw[c.out];exact⟨_,rfl⟩⟩ (by rw[c.out];simp);have d:=Lh (JA lb (W.heap.size+1+1) W.heap.size (λk o=>Z k o\/k=lb) W4 ⟨4,A4,c4,(Kf nn [0,1, -1,wrap64 (nn+1),wrap64 (nn-1)])⟩ (J ([]++[⟨4,A4,c4,(Kf nn [0,1, -1,wrap64 (nn+1),wrap64 (nn-1)])⟩])) u.out q);clear q p;refine⟨trivial,rfl,d.out.mono ?_⟩;clear d;rintro e W5 ⟨⟨_,rfl⟩,p,j⟩;replace m:=(j).row m zN.out;replace u:=Lh (u.out.kg (j));clear j ak ah l;have ct:=m.cellv (i:=0) (v:=.int .i64 _) rfl;have cn:=m.cellv (i:=1) (v:=.int .i64 nn) rfl;clear m;gi_wp2_with fail
  go_end0
  exact⟨⟨_,rfl⟩,.inl ⟨_,by rw[c.out];rfl,p⟩⟩
 ·skip;have c:=Lh g;clear g;gi_wp2_with fail
  rw[<-af.out];have m:=RN.out;have ab:=ag.out;have ai:=B3.out;have p:=ae.out;clear af RN ag B3 ae H0 cl e0 e1;obtain⟨W4,s⟩:∃V,V=(z).alloc (.cells #[.int .i64 0] 3):=⟨_,rfl⟩;have l:Below (z).heap.size z W4:=by rw[s];exact(Below.refl _ _).alloc (Nat.le_refl _) _
  have ac:Rd W4 (some ⟨(z).heap.size,0,none⟩) (Qi [0]):=by rw[s];exact Jl _ _ _
  have aa:IntB W4 (some ⟨(z).heap.size,0,none⟩):=λa e=>by injection e with e;subst e;rw[s];exact⟨_,Row.new _ _ _⟩
  rw[<-s];clear s;rw[<-ab];replace p:=QI HJ.out p l;replace m:=((KpG.of_below (Z:=λk o=>Z k o\/k=lb) l)).row m zN.out;replace u:=Lh (u.out.kg ((KpG.of_below (Z:=λk o=>Z k o\/k=lb) l)));have q:=HY.out [] ⟨5,some ⟨z.heap.size,0,none⟩,1,[0]⟩ W4 p ⟨⟨ac,by simp,aa⟩,by rw[c.out];exact⟨_,rfl⟩⟩ (by rw[c.out];simp);have d:=Lh (JA lb (W.heap.size+1+1) W.heap.size (λk o=>Z k o\/k=lb) W4 ⟨5,some ⟨z.heap.size,0,none⟩,1,[0]⟩ (J ([]++[⟨5,some ⟨z.heap.size,0,none⟩,1,[0]⟩])) u.out q);clear q p;refine⟨trivial,rfl,d.out.mono ?_⟩;clear d;rintro e W5 ⟨⟨_,rfl⟩,p,j⟩;replace m:=(j).row m zN.out;replace u:=Lh (u.out.kg (j))
  have a5:∀k o,k<w.heap.size->k≠Rb->¬(Z k o\/k=lb):=λk o h1 h2 h=>by
   rcases h with h|h
   ·exact HC.out.z1 k o h1 h2 h
   ·have:=HL.out.1;omega
  have be:=j.row (HC.out.rl.below (HB.out.trans (ai.trans (l.mono ai.size) |>.mono HB.out.size)) HC.out.rl.lt) (a5 _ _ HC.out.rl.lt HC.out.bn);have bj:((⟨25,nn⟩::ys:List Nd).flatMap Nd.cells)≠[]:=by simp[Nd.cells]
  have ba:=j.rd (HC.out.hr.go (HB.out.trans (ai.trans (l.mono ai.size) |>.mono HB.out.size))) (λhn a e o=>a5 _ _ (KY HC.out.hr hn e) (HC.out.an a e))
  obtain⟨y,az,rfl⟩:∃y az,ys=y::az:=by
   cases ys with
   |nil=>exact absurd rfl (HC.out.h25 rfl)
   |cons y az=>exact⟨y,az,rfl⟩
  obtain⟨bf,av,aw⟩:=J6 ba (k:=1) (x:=y) rfl;obtain rfl:ad=bf:=by rw[a6.out]at av;injection av
  have a7:=be.cellv (i:=0) (v:=.slice A n cap) rfl;rw[a6.out]at a7;have bg:W5.cell? ⟨ad.block,ad.off+2,none⟩=some (.int .i64 y.tag):=by have:=aw 0 _ rfl;rw[Nat.one_mul,XP]at this;exact this
  have bh:W5.cell? ⟨ad.block,ad.off+2+1,none⟩=some (.int .i64 y.n):=by have:=aw 1 _ rfl;rw[Nat.one_mul]at this;exact this
  have bm:(1:Int)<(n:Int):=by have:=HC.out.hn;rw[this];simp;omega
  clear j ac l ab ai a5 be bj ba av aw;have ct:=m.cellv (i:=0) (v:=.int .i64 25) rfl;gi_wp2_with fail
  refine⟨trivial,rfl,(callsIn_wide.2 (AcJ y W5)).mono ?_⟩;rintro e W6 ⟨A6,c6,rfl,bc,a0,aj,ap⟩;replace p:=QI HJ.out p aj;clear ct a7 bg bh;replace m:=((KpG.of_below (Z:=λk o=>Z k o\/k=lb) aj)).row m zN.out;replace u:=Lh (u.out.kg ((KpG.of_below (Z:=λk o=>Z k o\/k=lb) aj)));gi_wp2_with fail
  have q:=HY.out [⟨5,some ⟨z.heap.size,0,none⟩,1,[0]⟩] ⟨7,A6,c6,(ZI y)⟩ W6 p ⟨⟨bc,a0,ap⟩,by rw[c.out];exact⟨_,rfl⟩⟩ (by rw[c.out];simp);have d:=Lh (JA lb (W.heap.size+1+1) W.heap.size (λk o=>Z k o\/k=lb) W6 ⟨7,A6,c6,(ZI y)⟩ (J ([⟨5,some ⟨z.heap.size,0,none⟩,1,[0]⟩]++[⟨7,A6,c6,(ZI y)⟩])) u.out q);clear q p;refine⟨trivial,rfl,d.out.mono ?_⟩;clear d;rintro e W7 ⟨⟨_,rfl⟩,p,j⟩;replace m:=(j).row m zN.out;replace u:=Lh (u.out.kg (j));clear j bc a0 aj;have ct:=m.cellv (i:=0) (v:=.int .i64 _) rfl;have cn:=m.cellv (i:=1) (v:=.int .i64 nn) rfl;clear m;gi_wp2_with fail
  go_end0
  exact⟨⟨_,rfl⟩,.inl ⟨_,by rw[c.out];rfl,p⟩⟩
 all_goals
  have c:=Lh g
  clear g
  gi_wp2_with fail
  go_end0
  exact⟨⟨_,rfl⟩,.inl ⟨[],by rw[c.out];rfl,by rw[<-af.out];exact ae.out⟩⟩
theorem Ae5 (A:Option Addr)(cap n bl Rb:Nat)(x:Nd)(ys:List Nd)(Z:Nat->Obj->Prop)(w:World)(hC:ListsC A cap n bl Rb x ys Z w)(h1:1<=x.tag)(h2:x.tag<=26):
 Ej Tryz.prog 210 #[.pointer (some ⟨bl,0,none⟩)] LsX.enc (λ_=>False) (λlb=>KpG (λk o=>Z k o\/k=lb)) (LsP (Ku x (ys.headD ⟨0,0⟩))) (λxs=>xs.map LsX.f=Ku x (ys.headD ⟨0,0⟩)) (λ_=>True) (Ku x (ys.headD ⟨0,0⟩)).length False w:=by
 obtain⟨tag,g⟩:=x;simp only at h1 h2;refine AgW A cap n bl Rb tag g ys Z w hC _ ?_;by_cases c:7<=tag/\tag<=11
 ·exact .inl ⟨c.1,c.2,by simp[Ku,c,show ¬tag=21 by omega,show ¬tag=22 by omega,show ¬tag=23 by omega,show ¬tag=24 by omega,show ¬tag=25 by omega]⟩
 by_cases d:12<=tag/\tag<=17
 ·exact .inr (.inl ⟨d.1,d.2,by simp[Ku,c,d,show ¬tag=21 by omega,show ¬tag=22 by omega,show ¬tag=23 by omega,show ¬tag=24 by omega,show ¬tag=25 by omega]⟩)
 have e:tag=1\/tag=2\/tag=3\/tag=4\/tag=5\/tag=6\/tag=18\/tag=19\/tag=20\/tag=21\/tag=22\/tag=23\/tag=24\/tag=25\/tag=26:=by omega
 rcases e with rfl|rfl|rfl|rfl|rfl|rfl|rfl|rfl|rfl|rfl|rfl|rfl|rfl|rfl|rfl
 all_goals simp[Ku]
end Go.Proofs.YtkoikjnlpifbjaaGreat
