/- Lemmas for ArAll. -/
import Derived.Test.YtgnmkiafeplbpaaGreatDoorZf1
import Derived.Test.YtgnmkiafeplbpaaGreatDoorZf38
set_option linter.unusedVariables false
set_option linter.unusedSimpArgs false
set_option maxRecDepth 100000
set_option maxHeartbeats 16000000
namespace Go.Proofs.YtgnmkiafeplbpaaGreatDoor
open Go.RowKit Go.Deep
attribute [local go_sem] Oper.semAt_some
structure SuGot (s:List UInt8)(w w':World)(e:Ending)(A:Option Addr)(cap:Nat)(ls:List IntsV)(fuel:Int):Prop where
 e:e=.returned (.tuple #[.slice A ls.length cap,.int .i64 fuel,.int .i64 (Yq s).2])
 m:(ls.map IntsV.l,fuel)=(Yq s).1
 rd:Rd w' A (ZU ls)
 nil:A=none->ls=[]
 t:∀y∈ls,IntT w' y
 rb:RowB w' 22 A
 n:ls.length<=1000
 l:∀y∈ls,y.l.length<=1000
 b:Below w.heap.size w w'
theorem Akw{P:Program}{md:Region.Mode}{o:Array Oper}{Q:Exit->Act->World->Prop}{S:World->Prop}{n:Nat}{L:Array Bool}{f:Nat->Act}{F:Nat->World->Prop}{G:Prop}
 (main:(∀(C:Nat) W,F C W->wpAnyH P md o Q S n L (f C) W)->G) (tail:∀(C:Nat) W,F C W->wpAnyH P md o Q S n L (f C) W):G:=main tail
theorem AkF (w:World):(zeroValue 189).run Tryz.prog w=.ok (.pointer none) w:=by kernel_rfl
theorem Uo (w:World):(zeroValue 3).run Tryz.prog w=.ok (.int .i64 0) w:=by kernel_rfl
theorem AcR{s:List UInt8}{wd:Nat}{r:Rs}:∀k,∀l∈(Zu (λ_=>true) (AbS s wd) r k).1,l.length=wd
 |0=>λl hl=>by simp[Zu]at hl
 |k+1=>λl hl=>by
  rw[J4]at hl
  rcases LG.1 hl with h|h
  ·exact AcR k l h
  ·rw[L8.1 h];exact K9 _ _ _
def suA (s:List UInt8)(f:Int)(r:Rs):Su:=((Zu (λ_=>true) (AbS s (Qo s (Qo s r 20).2 12).1.toNat) (Qo s (Qo s r 20).2 12).2 (Qo s r 20).1.toNat).1,f)
theorem Amw (s:List UInt8):Y0 s=suA s (Qo s ⟨0,0⟩ 10000).1 (Qo s ⟨0,0⟩ 10000).2:=rfl
theorem Air (s:List UInt8)(w:World)(hs:s.length<=900000):
 Calls Tryz.prog 113 #[.string ⟨s.toArray⟩] w λe w'=>∃A cap ls fuel,SuGot s w w' e A cap ls fuel:=by
 have bh:=Lv hs;have Hs:=Lv (show s.length<=1000000 by omega);obtain⟨pd,a8⟩:∃p,p=Yq s:=⟨_,rfl⟩;have ba:=Lv a8
 have ah:Hid (∀w' e A cap ls fuel,(e=.returned (.tuple #[.slice A ls.length cap,.int .i64 fuel,.int .i64 pd.2])/\(ls.map IntsV.l,fuel)=pd.1/\Rd w' A (ZU ls)/\(A=none->ls=[])/\(∀y∈ls,IntT w' y)/\RowB w' 22 A/\ls.length<=1000/\(∀y∈ls,y.l.length<=1000)/\Below w.heap.size w w')->∃A cap ls fuel,SuGot s w w' e A cap ls fuel):=Lv (by
  rintro w' e A cap ls fuel ⟨h1,h2,h3,h4,h5,h6,h7,h8,h9⟩
  rw[a8]at h1 h2
  exact⟨A,cap,ls,fuel,h1,h2,h3,h4,h5,h6,h7,h8,h9⟩)
 clear hs a8;go_enter Tryz.func113,Tryz.ntmps113
 go_wp2_with fail
 refine(X9 s w).mono ?_;rintro e w2 ⟨g,rfl,h2,b2,hg⟩;go_wp2_with (refine Qs _ rfl ?_)
 refine Stop.to ?_;refine Qi rfl 189 rfl _ _ (AkF _) rfl ?_;intro B Bw Bh Br Bb;go_wp2_with (refine Qk _ _ _ rfl ?_)
 refine Stop.to ?_;refine Qt rfl 189 _ _ rfl B 0 rfl (.pointer (some ⟨g,0,none⟩)) rfl [.pointer (some ⟨g,0,none⟩)] rfl 189 _ #[.pointer (some ⟨g,0,none⟩)] Br (by kernel_rfl) (by show 0+1<=1;omega) (by simp[Value.oneCell']) rfl ?_;intro Bx Bs Bo;have Bc:=(Bb.mono Bh).trans (Bo.below Bh);clear Bb Br Bo;have h3:=h2.go Bc;have bk:g<B:=Lg (Row.lt h2) Bh;have a2:=b2.trans (Bc.mono b2.size);have aa:=Lv (Amw s);unfold suA at aa;have ai:=Z3 (s:=s) (r:=⟨0,0⟩) (most:=10000) (by decide);have aj:=Jj (s:=s) (r:=⟨0,0⟩) (most:=10000) (Nat.zero_le _);rw[<-QV]at ai;obtain⟨⟨fu,r1⟩,a4⟩:∃p,p=Qo s ⟨0,0⟩ 10000:=⟨_,rfl⟩;rw[<-a4]at ai aj aa;have ac:=Z3 (s:=s) (r:=r1) (most:=20) (by decide);have af:=Jj (s:=s) (r:=r1) (most:=20) aj;rw[<-QV]at ac;obtain⟨⟨n,r2⟩,a5⟩:∃p,p=Qo s r1 20:=⟨_,rfl⟩;dsimp only at ai aj aa;rw[<-a5]at ac af aa;have ae:=Z3 (s:=s) (r:=r2) (most:=12) (by decide);have am:=Jj (s:=s) (r:=r2) (most:=12) af;rw[<-QV]at ae;obtain⟨⟨wd,r3⟩,a6⟩:∃p,p=Qo s r2 12:=⟨_,rfl⟩;dsimp only at ac af aa;rw[<-a6]at ae am aa;dsimp only at ae am aa;obtain⟨m,rfl⟩:=LA ac.1;obtain⟨wn,rfl⟩:=LA ae.1;rw[L0,L0]at aa;have ar:Hid ((Qo s ⟨0,0⟩ 10000).1=fu/\(Qo s ⟨0,0⟩ 10000).2=r1):=by rw[<-a4];exact⟨rfl,rfl⟩
 have au:Hid ((Qo s r1 20).1=(m:Int)/\(Qo s r1 20).2=r2):=by rw[<-a5];exact⟨rfl,rfl⟩
 have av:Hid ((Qo s r2 12).1=(wn:Int)/\(Qo s r2 12).2=r3):=by rw[<-a6];exact⟨rfl,rfl⟩
 have bl:=Lv ai
 have ap:Hid (∀W,RdO W g s ⟨0,0⟩->Calls Tryz.prog 148 #[.pointer (some ⟨g,0,none⟩),.int .i64 10000] W λe w'=>e=.returned (.int .i64 fu)/\RdO w' g s r1/\RdEff g W w'):=λW h=>by
  have:=Zi g s ⟨0,0⟩ 10000 (Nat.zero_le _) Hs.out (by decide) (by decide) W h;rw[ar.out.1,ar.out.2]at this;exact this
 have ak:Hid (∀W,RdO W g s r1->Calls Tryz.prog 148 #[.pointer (some ⟨g,0,none⟩),.int .i64 20] W λe w'=>e=.returned (.int .i64 (m:Int))/\RdO w' g s r2/\RdEff g W w'):=λW h=>by
  have:=Zi g s r1 20 aj Hs.out (by decide) (by decide) W h;rw[au.out.1,au.out.2]at this;exact this
 have ag:Hid (∀W,RdO W g s r2->Calls Tryz.prog 148 #[.pointer (some ⟨g,0,none⟩),.int .i64 12] W λe w'=>e=.returned (.int .i64 (wn:Int))/\RdO w' g s r3/\RdEff g W w'):=λW h=>by
  have:=Zi g s r2 12 af Hs.out (by decide) (by decide) W h;rw[av.out.1,av.out.2]at this;exact this
 clear a4 a5 a6 h2 b2 Bc ai ar au av;go_wp2_with fail
 obtain⟨Vd,a1⟩:∃Vd,Vd=Bx.drew:=⟨_,rfl⟩;have bd:Below Bx.heap.size Bx Vd:=by rw[a1];exact St.drew (S:=λW=>Below Bx.heap.size Bx W) (Below.refl _ _)
 have d:=Bs.below bd Bs.lt;have j:=a2.trans (bd.mono a2.size);have q0:=h3.go bd;refine wp_region_held (S:=λW=>Row W B 189 #[.pointer (some ⟨g,0,none⟩)]) (by kernel_rfl) ?_;simp only[Ly,Le,Ll,Nat.reduceAdd,Ln,Lp,Lz,Lu,Lk];show wpAnyH _ _ _ _ _ _ _ _ Bx.drew;rw[<-a1];clear a1 Bs a2 bd h3 Bh;(refine tkH 0 (.pointer (some ⟨g,0,none⟩)) rfl (Qd rfl (λW hW=>by((have c:=Row.cellv hW (i:=0) rfl;go_simp)))) ?_;simp only[Act.put,Qa,Qb,Qc]);(refine tkH 2 (.pointer (some ⟨g,0,none⟩)) rfl (Qd rfl (λW hW=>by((have c:=Row.cellv hW (i:=0) rfl;go_simp)))) ?_;simp only[Act.put,Qa,Qb,Qc]);(refine tkH 4 (.pointer (some ⟨g,0,none⟩)) rfl (Qd rfl (λW hW=>by((have c:=Row.cellv hW (i:=0) rfl;go_simp)))) ?_;simp only[Act.put,Qa,Qb,Qc]);apply Akw (F:=λC W=>Row W B 189 #[.pointer (some ⟨g,0,none⟩)]/\RdO W g s r3/\Row W C 3 #[.int .i64 0]/\B<C/\Below w.heap.size w W)
 case main=>
  intro tA;refine wpAnyH_all (rs:=[1,6]) (by kernel_rfl) (by simp) (λi u=>?_);simp only[L6,LJ,or_false]at u;rcases u with rfl|rfl
  ·skip;refine Qg rfl rfl (λo a=>?_);refine Qm 148 #[.pointer (some ⟨g,0,none⟩),.int .i64 10000] (w1:=Vd) (by go_simp) ((ap.out Vd q0).mono ?_);rintro e V1 ⟨rfl,q1,k⟩;refine⟨_,rfl,?_⟩;refine a _ _ ?_;clear a o;simp only[Act.put,Qa,Qb,Qc];have d:=k.row d (by omega);have j:=j.trans (k.below (show w.heap.size<=g by omega) j.size);skip;clear k;refine⟨d,?_⟩;refine wpAnyH_all (rs:=[3,6]) (by kernel_rfl) (by simp) (λi u=>?_);simp only[L6,LJ,or_false]at u;rcases u with rfl|rfl
   ·skip;refine Qg rfl rfl (λo a=>?_);refine Qm 148 #[.pointer (some ⟨g,0,none⟩),.int .i64 20] (w1:=V1) (by go_simp) ((ak.out V1 q1).mono ?_);rintro e V2 ⟨rfl,q2,k⟩;refine⟨_,rfl,?_⟩;refine a _ _ ?_;clear a o;simp only[Act.put,Qa,Qb,Qc];have d:=k.row d (by omega);have j:=j.trans (k.below (show w.heap.size<=g by omega) j.size);skip;clear k;refine⟨d,?_⟩;refine wpAnyH_all (rs:=[5,6]) (by kernel_rfl) (by simp) (λi u=>?_);simp only[L6,LJ,or_false]at u;rcases u with rfl|rfl
    ·skip;refine Qg rfl rfl (λo a=>?_);refine Qm 148 #[.pointer (some ⟨g,0,none⟩),.int .i64 12] (w1:=V2) (by go_simp) ((ag.out V2 q2).mono ?_);rintro e V3 ⟨rfl,q3,k⟩;refine⟨_,rfl,?_⟩;refine a _ _ ?_;clear a o;simp only[Act.put,Qa,Qb,Qc];have d:=k.row d (by omega);have j:=j.trans (k.below (show w.heap.size<=g by omega) j.size);skip;clear k;refine⟨d,?_⟩;(refine wpAnyH_all (rs:=[6]) (by kernel_rfl) (by simp) (λi u=>?_);obtain rfl:i=6:=by simpa using u);refine Qg rfl rfl (λo a=>?_);refine ZL 3 rfl _ _ (Uo _) rfl ?_;intro C V4 hC z q;refine a _ _ ?_;clear a o;simp only[Act.put,Qa,Qb,Qc];have ab:B<C:=Lg d.lt hC;have q:=q.mono hC;have d:=d.below q d.lt;have j:=j.trans (q.mono j.size);have q3:=q3.go q;clear hC q;refine⟨d,?_⟩;exact tA C V4 ⟨d,q3,z,ab,j⟩
    ·skip;refine Qg rfl rfl (λo a=>?_);refine ZL 3 rfl _ _ (Uo _) rfl ?_;intro C V3 hC z q;refine a _ _ ?_;clear a o;simp only[Act.put,Qa,Qb,Qc];have ab:B<C:=Lg d.lt hC;have q:=q.mono hC;have d:=d.below q d.lt;have j:=j.trans (q.mono j.size);have q2:=q2.go q;clear hC q;refine⟨d,?_⟩;(refine wpAnyH_all (rs:=[5]) (by kernel_rfl) (by simp) (λi u=>?_);obtain rfl:i=5:=by simpa using u);refine Qg rfl rfl (λo a=>?_);refine Qm 148 #[.pointer (some ⟨g,0,none⟩),.int .i64 12] (w1:=V3) (by go_simp) ((ag.out V3 q2).mono ?_);rintro e V4 ⟨rfl,q3,k⟩;refine⟨_,rfl,?_⟩;refine a _ _ ?_;clear a o;simp only[Act.put,Qa,Qb,Qc];have d:=k.row d (by omega);have j:=j.trans (k.below (show w.heap.size<=g by omega) j.size);have z:=k.row z (by omega);clear k;refine⟨d,?_⟩;exact tA C V4 ⟨d,q3,z,ab,j⟩
   ·skip;refine Qg rfl rfl (λo a=>?_);refine ZL 3 rfl _ _ (Uo _) rfl ?_;intro C V2 hC z q;refine a _ _ ?_;clear a o;simp only[Act.put,Qa,Qb,Qc];have ab:B<C:=Lg d.lt hC;have q:=q.mono hC;have d:=d.below q d.lt;have j:=j.trans (q.mono j.size);have q1:=q1.go q;clear hC q;refine⟨d,?_⟩;(refine wpAnyH_all (rs:=[3]) (by kernel_rfl) (by simp) (λi u=>?_);obtain rfl:i=3:=by simpa using u);refine Qg rfl rfl (λo a=>?_);refine Qm 148 #[.pointer (some ⟨g,0,none⟩),.int .i64 20] (w1:=V2) (by go_simp) ((ak.out V2 q1).mono ?_);rintro e V3 ⟨rfl,q2,k⟩;refine⟨_,rfl,?_⟩;refine a _ _ ?_;clear a o;simp only[Act.put,Qa,Qb,Qc];have d:=k.row d (by omega);have j:=j.trans (k.below (show w.heap.size<=g by omega) j.size);have z:=k.row z (by omega);clear k;refine⟨d,?_⟩;(refine wpAnyH_all (rs:=[5]) (by kernel_rfl) (by simp) (λi u=>?_);obtain rfl:i=5:=by simpa using u);refine Qg rfl rfl (λo a=>?_);refine Qm 148 #[.pointer (some ⟨g,0,none⟩),.int .i64 12] (w1:=V3) (by go_simp) ((ag.out V3 q2).mono ?_);rintro e V4 ⟨rfl,q3,k⟩;refine⟨_,rfl,?_⟩;refine a _ _ ?_;clear a o;simp only[Act.put,Qa,Qb,Qc];have d:=k.row d (by omega);have j:=j.trans (k.below (show w.heap.size<=g by omega) j.size);have z:=k.row z (by omega);clear k;refine⟨d,?_⟩;exact tA C V4 ⟨d,q3,z,ab,j⟩
  ·skip;refine Qg rfl rfl (λo a=>?_);refine ZL 3 rfl _ _ (Uo _) rfl ?_;intro C V1 hC z q;refine a _ _ ?_;clear a o;simp only[Act.put,Qa,Qb,Qc];have ab:B<C:=Lg d.lt hC;have q:=q.mono hC;have d:=d.below q d.lt;have j:=j.trans (q.mono j.size);have q0:=q0.go q;clear hC q;refine⟨d,?_⟩;(refine wpAnyH_all (rs:=[1]) (by kernel_rfl) (by simp) (λi u=>?_);obtain rfl:i=1:=by simpa using u);refine Qg rfl rfl (λo a=>?_);refine Qm 148 #[.pointer (some ⟨g,0,none⟩),.int .i64 10000] (w1:=V1) (by go_simp) ((ap.out V1 q0).mono ?_);rintro e V2 ⟨rfl,q1,k⟩;refine⟨_,rfl,?_⟩;refine a _ _ ?_;clear a o;simp only[Act.put,Qa,Qb,Qc];have d:=k.row d (by omega);have j:=j.trans (k.below (show w.heap.size<=g by omega) j.size);have z:=k.row z (by omega);clear k;refine⟨d,?_⟩;(refine wpAnyH_all (rs:=[3]) (by kernel_rfl) (by simp) (λi u=>?_);obtain rfl:i=3:=by simpa using u);refine Qg rfl rfl (λo a=>?_);refine Qm 148 #[.pointer (some ⟨g,0,none⟩),.int .i64 20] (w1:=V2) (by go_simp) ((ak.out V2 q1).mono ?_);rintro e V3 ⟨rfl,q2,k⟩;refine⟨_,rfl,?_⟩;refine a _ _ ?_;clear a o;simp only[Act.put,Qa,Qb,Qc];have d:=k.row d (by omega);have j:=j.trans (k.below (show w.heap.size<=g by omega) j.size);have z:=k.row z (by omega);clear k;refine⟨d,?_⟩;(refine wpAnyH_all (rs:=[5]) (by kernel_rfl) (by simp) (λi u=>?_);obtain rfl:i=5:=by simpa using u);refine Qg rfl rfl (λo a=>?_);refine Qm 148 #[.pointer (some ⟨g,0,none⟩),.int .i64 12] (w1:=V3) (by go_simp) ((ag.out V3 q2).mono ?_);rintro e V4 ⟨rfl,q3,k⟩;refine⟨_,rfl,?_⟩;refine a _ _ ?_;clear a o;simp only[Act.put,Qa,Qb,Qc];have d:=k.row d (by omega);have j:=j.trans (k.below (show w.heap.size<=g by omega) j.size);have z:=k.row z (by omega);clear k;refine⟨d,?_⟩;exact tA C V4 ⟨d,q3,z,ab,j⟩
 case tail=>
  rintro C W4 ⟨d,q3,z,ab,j⟩;(refine tkH 7 (.int .i64 fu) rfl (Qd rfl (λW hW=>by(go_simp))) ?_;simp only[Act.put,Qa,Qb,Qc]);(refine tkH 8 (.int .i64 (m:Int)) rfl (Qd rfl (λW hW=>by(go_simp))) ?_;simp only[Act.put,Qa,Qb,Qc]);(refine wpAnyH_all (rs:=[9]) (by kernel_rfl) (by simp) (λi u=>?_);obtain rfl:i=9:=by simpa using u);refine Qg rfl rfl (λo a=>?_);refine Jk 3 _ _ rfl C 0 rfl (.int .i64 (wn:Int)) rfl [.int .i64 (wn:Int)] rfl 3 _ #[.int .i64 (wn:Int)] z (by kernel_rfl) (by show 0+1<=1;omega) (by simp[Value.oneCell']) rfl ?_;intro W5 bg o5;refine a _ _ ?_;clear a o;simp only[Act.put,Qa,Qb,Qc];have a0:=d.only o5 (by omega);have q5:RdO W5 g s r3:=Row.only q3 o5 (by omega);have bc:=Ql j o5 (by omega);refine⟨a0,?_⟩;refine wpAnyH_done (by kernel_rfl) ?_ _;have a9:=Lv (Aea g C B s r3 m wn (by have:=ac.2;omega) (by have:=ae.2;omega) am bh.out W5 q5 bg a0);have aq:=Lv bc;have ay:Hid (m<=20/\wn<=12):=⟨by have:=ac.2;omega,by have:=ae.2;omega⟩;clear d q3 z ab j bg o5 a0 q5 bc ap ak ag ac ae aj af am bk;go_wp2_with fail
  refine a9.out.mono ?_;rintro e W6 ⟨v,ys,rfl,hR⟩;obtain⟨A,cap,rfl,az, -, -,bb, -⟩:=JM hR.own;have an:(ys.map IntsV.l,fu)=Y0 s:=by rw[aa.out,hR.m]
  have bj:ys.length=m:=by have:=congrArg List.length hR.m;rw[L7,K9]at this;exact this
  have ao:∀y∈ys,y.l.length=wn:=λy hy=>AcR m y.l (by rw[<-hR.m];exact LL.2 ⟨y,hy,rfl⟩)
  have HP:=Lv (VA A cap ys fu W6 az (by have:=ay.out;omega) (λr hr=>(hR.t r hr).1));have a3:=aq.out.trans (hR.eff.below hg aq.out.size);have al:Hid (∀W,Below W6.heap.size W6 W->Rd W A (ZU ys)/\(∀x∈ys,IntT W x)/\RowB W 22 A/\Below w.heap.size w W):=λW b=>⟨az.go b,λx hx=>(hR.t x hx).same λad cs e hr=>hr.below b hr.lt,(K3 hR.own).go b,a3.trans (b.mono a3.size)⟩;have aw:Hid ((A=none->ys=[])/\ys.length<=1000/\∀y∈ys,y.l.length<=1000):=⟨λe=>L3 (by have:=bb e;have h9:=JM hR.own;obtain⟨_,c9,e9,_,l9,_,n9,_⟩:=h9;injection e9 with e9 _ e10;subst e9 e10;omega),by have:=ay.out;omega,λy hy=>by have:=ao y hy;have:=ay.out;omega⟩
  have a7:∀l∈(Y0 s).1,∀n∈l,InI n:=by
   rw[<-an];intro l hl n hn;obtain⟨y,hy,rfl⟩:=LL.1 hl;exact(hR.t y hy).1.all n hn
  rw[an]at HP;have bi:=Lv an;clear an hR bj ao a3 az bb a9 aq aa;go_wp2_with fail
  by_cases hr:AkL (Y0 s)/\Jt (Y0 s)=s
  ·have hp:XB (Y0 s)=(s,0):=by rw[Vg ⟨hr.1.1,hr.1.2.1⟩,hr.2]
   rw[hp]at HP;obtain rfl:pd=(Y0 s,0):=ba.out.trans (Jf (rd:=Y0) (λx h=>Abs h) hr.1 hr.2);clear hr hp a7;refine HP.out.mono ?_;rintro e w8 ⟨rfl,b8⟩;have HE:=Lv (al.out _ b8);clear HP al b8;go_wp2_with fail
   go_ret3
   exact ah.out _ _ A cap ys fu ⟨rfl,bi.out,HE.out.1,aw.out.1,HE.out.2.1,HE.out.2.2.1,aw.out.2.1,aw.out.2.2,HE.out.2.2.2⟩
  ·obtain rfl:pd=(([],0),12):=ba.out.trans (XT (rd:=Y0) (λx h=>Abs h) hr);obtain⟨⟨t,e0⟩,hp⟩:∃p,p=XB (Y0 s):=⟨_,rfl⟩;rw[<-hp]at HP
   have be:¬(e0=0/\t=s):=λh=>hr (by
    by_cases h1:ZV (Y0 s)<=12/\Zk (ZV (Y0 s)) (Y0 s).1 (Y0 s).2=0
    ·rw[Vg h1]at hp;injection hp with af _;exact⟨⟨h1.1,h1.2,a7⟩,by rw[<-af,h.2]⟩
    ·have:=(AjZ h1).1;rw[<-hp]at this;exact absurd h.1 this)
   have bf:e0=0->(t==s)=false:=λh0=>by simpa using λe=>be ⟨h0,e⟩
   have ax:=Lv bf;clear hr hp be bf a7;refine HP.out.mono ?_;rintro e w8 ⟨rfl,b8⟩;have HE:=Lv (al.out _ b8).2.2.2;clear HP al b8;by_cases he:e0=0
   ·have bm:=ax.out he;subst he;clear ax;go_wp2_with fail
    go_ret3
    exact ah.out _ _ none 0 [] 0 ⟨rfl,rfl,Rd.nil _ _,λ_=>rfl,λy hy=>(by cases hy),λad h=>(by cases h),by simp,λy hy=>(by cases hy),HE.out⟩
   ·clear ax;go_wp2_with fail
    go_ret3
    exact ah.out _ _ none 0 [] 0 ⟨rfl,rfl,Rd.nil _ _,λ_=>rfl,λy hy=>(by cases hy),λad h=>(by cases h),by simp,λy hy=>(by cases hy),HE.out⟩
end Go.Proofs.YtgnmkiafeplbpaaGreatDoor
