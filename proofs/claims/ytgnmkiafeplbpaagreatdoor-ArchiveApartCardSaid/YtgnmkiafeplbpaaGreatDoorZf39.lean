/- Lemmas for ArAll. -/
import Derived.Test.YtgnmkiafeplbpaaGreatDoorZf1
import Derived.Test.YtgnmkiafeplbpaaGreatDoorZf37
import Derived.Test.YtgnmkiafeplbpaaGreatDoorZf38
set_option linter.unusedVariables false
set_option linter.unusedSimpArgs false
set_option maxRecDepth 100000
set_option maxHeartbeats 16000000
namespace Go.Proofs.YtgnmkiafeplbpaaGreatDoor
open Go.RowKit Go.Deep
attribute [local go_sem] Oper.semAt_some
theorem AlC (g:Nat)(s:List UInt8)(r:Rs)(hp:r.pl<=s.length)(hs:s.length<=1000000)(w:World)(h:RdO w g s r):
 Calls Tryz.prog 162 #[.pointer (some ⟨g,0,none⟩)] w λe w'=>e=.returned (.int .i64 (Qo s r 200).1)/\RdO w' g s (Qo s r 200).2/\RdEff g w w':=by
 have a:=Lv (Zi g s r 200 hp hs (by decide) (by decide) w h);clear hp hs h;go_enter Tryz.func162,Tryz.ntmps162
 go_wp2_with fail
 refine a.out.mono ?_;rintro e d ⟨rfl,b,c⟩;go_wp2_with fail
 go_ret
 exact⟨rfl,b,c⟩
theorem AeM{w w':World}{b b' s s' n n':Nat}{e e':TypeId}{v v':Value}{xs xs':List Value}(h:w.ownsRow b e s v n xs)(h':w.ownsRow b' e' s' v' n' xs')(hne:e≠e')(hg:w.grownBy w' v'.ownBlock):w'.ownsRow b e s v n xs:=by
 refine h.kept hg ?_;rcases h'.2 with⟨rfl,_⟩|⟨g,c,a,rfl,_,i,_⟩
 ·cases v.ownBlock<;>simp[Value.ownBlock]
 ·exact .inr λd=>QK h (show Row w g e' a from i) hne (by rw[d];rfl)
structure CgL (s:List UInt8)(g R D lim:Nat)(w W:World)(pa:Int)(vv bv:Value)(V:List Int)(body:List Nd)(r:Rs):Prop where
 rd:RdO W g s r
 row:Row W D 25 #[.int .i64 pa,vv,bv]
 res:Row W R 25 #[.int .i64 0,.slice none 0 0,.slice none 0 0]
 vo:W.ownsRow lim 3 1 vv V.length (Qj V)
 bo:W.ownsRow lim 52 2 bv body.length (body.flatMap Nd.cells)
 b:Below w.heap.size w W
 lim:lim<=W.heap.size
structure CgB (g R D lim n:Nat):Prop where
 n:n<=R
 a:R<g
 b:g<D
 c:D<lim
section
variable {s:List UInt8} {g R D lim:Nat} {w W W':World} {pa:Int} {vv bv:Value} {V:List Int} {body:List Nd} {r r':Rs}
theorem CgL.eff (h:CgL s g R D lim w W pa vv bv V body r)(B:CgB g R D lim w.heap.size)(e:RdEff g W W')(q:RdO W' g s r'):CgL s g R D lim w W' pa vv bv V body r':=by
 obtain⟨a,c,d,i⟩:=B;exact⟨q,e.row h.row (by omega),e.row h.res (by omega),Yi h.vo e (by omega),Yi h.bo e (by omega),h.b.trans (e.below (by omega) h.b.size),Lj h.lim e.size⟩
theorem CgL.go (h:CgL s g R D lim w W pa vv bv V body r)(b:Below W.heap.size W W'):CgL s g R D lim w W' pa vv bv V body r:=
 ⟨h.rd.go b,h.row.below b h.row.lt,h.res.below b h.res.lt,QU h.vo b,QU h.bo b,h.b.trans (b.mono h.b.size),Lj h.lim b.size⟩
theorem CgL.vset{v2:Value}{x:Int}(h:CgL s g R D lim w W pa vv bv V body r)(B:CgB g R D lim w.heap.size)(hg:W.grownBy W' vv.ownBlock)(own:W'.ownsRow lim 3 1 v2 (V.length+1) (Qj V++Qj [x])):CgL s g R D lim w (W'.setCell ⟨D,1,none⟩ v2) pa v2 bv (V++[x]) body r:=by
 obtain⟨e,i,j,l⟩:=B;have a:=h.row.grown hg (QK h.vo h.row (by decide));have c:=h.res.grown hg (QK h.vo h.res (by decide));have d:Row W' g _ _:=Row.grown h.rd hg (QK h.vo h.rd (by decide));have o:=Qu W' D 1 v2;have k:=AeM h.bo h.vo (by decide) hg;rw[show Qj V++Qj [x]=Qj (V++[x]) by simp[Qj]]at own;exact⟨d.only o (by omega),a.set 1 _,c.only o (by omega),by rw[La];exact Za own o (QK own a (by decide)),Za k o (QK k a (by decide)),Ql (QJ h.b h.vo hg h.b.size (by omega)) o (by omega),by rw[o.size];exact Lj h.lim hg.size⟩
theorem CgL.bset{v2:Value}{x:Nd}(h:CgL s g R D lim w W pa vv bv V body r)(B:CgB g R D lim w.heap.size)(hg:W.grownBy W' bv.ownBlock)(own:W'.ownsRow lim 52 2 v2 (body.length+1) (body.flatMap Nd.cells++[x].flatMap Nd.cells)):CgL s g R D lim w (W'.setCell ⟨D,2,none⟩ v2) pa vv v2 V (body++[x]) r:=by
 obtain⟨e,i,j,l⟩:=B;have a:=h.row.grown hg (QK h.bo h.row (by decide));have c:=h.res.grown hg (QK h.bo h.res (by decide));have d:Row W' g _ _:=Row.grown h.rd hg (QK h.bo h.rd (by decide));have o:=Qu W' D 2 v2;have k:=AeM h.vo h.bo (by decide) hg;rw[<-LM]at own;exact⟨d.only o (by omega),a.set 2 _,c.only o (by omega),Za k o (QK k a (by decide)),by rw[La];exact Za own o (QK own a (by decide)),Ql (QJ h.b h.bo hg h.b.size (by omega)) o (by omega),by rw[o.size];exact Lj h.lim hg.size⟩
end
theorem CgL.onlyX{s:List UInt8}{g R D lim:Nat}{w W W':World}{pa:Int}{vv bv:Value}{V:List Int}{body:List Nd}{r:Rs}{X:Nat}(h:CgL s g R D lim w W pa vv bv V body r)(B:CgB g R D lim w.heap.size)(o:Only X W W')(hX:lim<=X)(n1:vv.ownBlock≠some X)(n2:bv.ownBlock≠some X):CgL s g R D lim w W' pa vv bv V body r:=by
 obtain⟨a,c,d,e⟩:=B;exact⟨Row.only h.rd o (by omega),h.row.only o (by omega),h.res.only o (by omega),Za h.vo o n1,Za h.bo o n2,Ql h.b o (by omega),by rw[o.size];exact h.lim⟩
theorem CgL.pg{s:List UInt8}{g R D lim:Nat}{w W:World}{pa:Int}{vv bv:Value}{V:List Int}{body:List Nd}{r:Rs}(h:CgL s g R D lim w W pa vv bv V body r)(hp:InI pa)(hV:∀t∈V,InI t)(hb:∀x∈body,InI x.tag/\InI x.n):
 ∃p:PgV,p.pd=⟨pa,V,body⟩/\p.ok W/\RowB W 3 p.va/\RowB W 52 p.ba/\vv=.slice p.va p.V.length p.vcap/\bv=.slice p.ba p.body.length p.bcap:=by
 obtain⟨A,c,rfl,b,d,e,i,_⟩:=JM h.vo;obtain⟨a,j,rfl,k,l,m,o,_⟩:=JM h.bo;exact⟨⟨pa,A,c,V,a,j,body⟩,rfl,⟨hp,d,e,i,b,hV,l,m,o,k,hb⟩,K3 h.vo,K3 h.bo,rfl,rfl⟩
def Ab0 (s:List UInt8)(r:Rs):Int×Rs:=(((QR s r).1:Int),(QR s r).2)
def pdA (s:List UInt8)(pa:Int)(V:List Int)(r:Rs):Pd:=⟨pa,V,(Zu (λr=>decide (ZB s r=5)) (U5 s) (Qo s r 200).2 (Qo s r 200).1.toNat).1⟩
def pdB (s:List UInt8)(pa:Int)(r:Rs):Pd:=pdA s pa (Zu (λ_=>true) (Ab0 s) (Qo s r 12).2 (Qo s r 12).1.toNat).1 (Zu (λ_=>true) (Ab0 s) (Qo s r 12).2 (Qo s r 12).1.toNat).2
theorem Amp (s:List UInt8):KH s=pdB s (Qo s ⟨0,0⟩ 12).1 (Qo s ⟨0,0⟩ 12).2:=rfl
theorem AiN (s:List UInt8)(r:Rs)(h:r.pl<=s.length):(Ab0 s r).2.pl<=s.length:=KI h
theorem Aly (s:List UInt8)(r:Rs)(h:r.pl<=s.length):(U5 s r).2.pl<=s.length:=by
 have a:=KI (s:=s) h;unfold U5;dsimp only;split
 ·exact Vh a
 ·split
  ·exact Jj a
  ·exact a
theorem Alx (s:List UInt8)(r:Rs):InI (U5 s r).1.tag/\InI (U5 s r).1.n:=by
 have a:InI ((QR s r).1:Int):=by have:=K5 s r;unfold InI;omega
 unfold U5;dsimp only;split
 ·exact⟨a,E7 s _⟩
 ·split
  ·refine⟨a,?_⟩;have:=Z3 (s:=s) (r:=(QR s r).2) (most:=200) (by decide);rw[<-QV]at this;exact⟨by dsimp only;omega,by dsimp only;omega⟩
  ·exact⟨a,by dsimp only;decide,by dsimp only;decide⟩
theorem AcQ{α:Type}{c:Rs->Bool}{one:Rs->α×Rs}{r:Rs}{k:Nat}(h:c (Zu c one r k).2=false):∀j,Zu c one r (k+j)=Zu c one r k
 |0=>rfl
 |j+1=>by
  show Zu c one r ((k+j)+1)=_
  rw[Zu,AcQ h j,if_neg (by rw[h];decide)]
theorem Abo{α:Type}(s:List UInt8)(c:Rs->Bool)(one:Rs->α×Rs)(h1:∀r,r.pl<=s.length->(one r).2.pl<=s.length)(r:Rs)(h:r.pl<=s.length):∀k,(Zu c one r k).2.pl<=s.length
 |0=>h
 |k+1=>by
  rw[Zu]
  split
  ·exact h1 _ (Abo s c one h1 r h k)
  ·exact Abo s c one h1 r h k
theorem Vv{α:Type}{c:Rs->Bool}{one:Rs->α×Rs}{r:Rs}{p:α->Prop}(h1:∀r,p (one r).1):∀k,∀x∈(Zu c one r k).1,p x
 |0=>λx hx=>by simp[Zu]at hx
 |k+1=>λx hx=>by
  rw[Zu]at hx
  split at hx
  ·rcases LG.1 hx with h|h
   ·exact Vv h1 k x h
   ·rw[L8.1 h];exact h1 _
  ·exact Vv h1 k x hx
structure CdGot (s:List UInt8)(w w':World)(e:Ending)(p:PgV):Prop where
 e:e=.returned (.tuple #[.agg p.cells,.int .i64 (XR s).2])
 m:p.pd=(XR s).1
 ok:p.ok w'
 bl:p.body.length<=1000
 vl:p.V.length<=1000
 va:RowB w' 3 p.va
 ba:RowB w' 52 p.ba
 b:Below w.heap.size w w'
def Vy (W:World)(a:Addr):Nat:=match W.cell? a with|some (.slice _ n _)=>n|_=>0
theorem Ae6{w:World}:(zeroValue 25).run Tryz.prog w=.ok (.agg #[.int .i64 0,.slice none 0 0,.slice none 0 0]) w:=by kernel_rfl
theorem AgW{p:PgV}{W W':World}{g:Nat}{t:TypeId}{cs:Array Value}(h:p.ok W)(hv:RowB W 3 p.va)(hb:RowB W 52 p.ba)(o:Only g W W')(hg:Row W g t cs)(n1:3≠t)(n2:52≠t):p.ok W'/\RowB W' 3 p.va/\RowB W' 52 p.ba:=by
 have ne:∀{t':TypeId} {A:Option Addr},RowB W t' A->t'≠t->∀ad,A=some ad->ad.block≠g:=λ{t' A} h n ad e e2=>by
  obtain⟨b,c⟩:=h ad e;have a:W.heap[g]? =some (.cells b t' (0,0)):=by rw[<-e2];exact c
  rw[show W.heap[g]? =some (.cells cs t (0,0))from hg]at a;injection a with a;injection a with _ a;exact n a.symm
 exact⟨h.only o (ne hv n1) (ne hb n2),hv.only o hg n1,hb.only o hg n2⟩
theorem AdY (s:List UInt8)(w:World)(hs:s.length<=900000):
 Calls Tryz.prog 111 #[.string ⟨s.toArray⟩] w λe w'=>∃p,CdGot s w w' e p:=by
 have Hs:=Lv (show s.length<=1000000 by omega);obtain⟨pd,ck⟩:∃p,p=XR s:=⟨_,rfl⟩;have bz:=Lv ck
 have ap:Hid (∀w' e (p:PgV),(e=.returned (.tuple #[.agg p.cells,.int .i64 pd.2])/\p.pd=pd.1/\p.ok w'/\p.body.length<=1000/\p.V.length<=1000/\RowB w' 3 p.va/\RowB w' 52 p.ba/\Below w.heap.size w w')->∃p,CdGot s w w' e p):=Lv (by
  rintro w' e p ⟨h1,h2,h3,h4,h5,h6,h7,h8⟩
  rw[ck]at h1 h2
  exact⟨p,h1,h2,h3,h4,h5,h6,h7,h8⟩)
 clear hs ck;go_enter Tryz.func111,Tryz.ntmps111
 go_wp2_with (first|fail| (refine Qs _ rfl ?_))
 refine Stop.to ?_;refine Qi rfl 25 rfl _ _ Ae6 rfl ?_;intro R Rw Rh Rr Rb;have bf:Row Rw R 25 #[.int .i64 0,.slice none 0 0,.slice none 0 0]:=Rr;go_wp2_with fail
 go_step3
 go_wp2_with fail
 refine(X9 s Rw).mono ?_;rintro e w2 ⟨g,rfl,h2,b2,hg⟩;have cy:=bf.below b2 bf.lt;have cw:R<g:=Lg bf.lt hg;have ci:Below w.heap.size w w2:=((Below.refl w.heap.size w).trans (Rb.mono Rh)).trans (b2.mono (by have:=bf.lt;omega));clear Rr bf Rb b2 hg;go_wp2_with fail
 refine(Zi g s ⟨0,0⟩ 12 (Nat.zero_le _) Hs.out (by omega) (by omega) w2 h2).mono ?_;rintro e w3 ⟨rfl,h3,e3⟩;have cm:=e3.row cy (by omega);have cj:=ci.trans (e3.below (show w.heap.size<=g by omega) ci.size);have b6:=Z3 (s:=s) (r:=⟨0,0⟩) (most:=12) (by decide);have bm:=Jj (s:=s) (r:=⟨0,0⟩) (most:=12) (Nat.zero_le _);rw[<-QV]at b6;have af:=Lv (Amp s);obtain⟨⟨pa,r0⟩,hc⟩:∃p,p=Qo s ⟨0,0⟩ 12:=⟨_,rfl⟩;rw[<-hc]at h3 b6 bm af|-;clear hc cy ci h2 e3;dsimp only at h3 b6 bm af|-;have co:Hid (InI pa):=by show InI pa;unfold InI;omega
 have de:∀W:World,(Instr.build 25 #[(0,.int .i64 pa)]).run Tryz.prog W=.ok (.agg #[.int .i64 pa,.slice none 0 0,.slice none 0 0]) W:=λW=>by kernel_rfl
 go_wp2_with (first|fail| (refine Qs _ rfl ?_))
 refine Stop.to ?_;refine Qi rfl 25 rfl _ _ Ae6 rfl ?_;intro D Dw Dh Dr Db;go_wp2_with (refine Qk _ _ _ rfl ?_)
 refine Stop.to ?_;refine Qh rfl 25 _ _ rfl D #[.int .i64 pa,.slice none 0 0,.slice none 0 0] rfl rfl 25 _ Dr (by kernel_rfl) rfl (by simp[Value.oneCell']) ?_;intro Dx Ds Do;have Dc:=(Db.mono Dh).trans (Do.below Dh);clear Db Dr Do;have cx:g<D:=Lg (Row.lt h3) Dh;have r4:=h3.go Dc;have R4:=cm.below Dc cm.lt;have b4:=cj.trans (Dc.mono cj.size);clear de Dc Dh h3 cm cj b6;go_wp2_with fail
 refine(Zi g s r0 12 bm Hs.out (by omega) (by omega) Dx r4).mono ?_;rintro e w5 ⟨rfl,h5,e5⟩;have a2:=Z3 (s:=s) (r:=r0) (most:=12) (by decide);have aw:=Jj (s:=s) (r:=r0) (most:=12) bm;rw[<-QV]at a2;unfold pdB at af;obtain⟨⟨c,r1⟩,hc⟩:∃p,p=Qo s r0 12:=⟨_,rfl⟩;rw[<-hc]at h5 a2 aw af|-;clear hc;dsimp only at h5 a2 aw af|-;obtain⟨m,rfl⟩:=LA a2.1;rw[L0]at af;have hm:(m:Int)<=12:=a2.2;obtain⟨F,hF⟩:∃F,F=Zu (λ_=>true) (Ab0 s) r1:=⟨_,rfl⟩;have HF:Hid (∀k,F (k+1)=((F k).1++[(Ab0 s (F k).2).1],(Ab0 s (F k).2).2)):=λk=>by rw[hF];exact J4 _ _ _
 have a8:Hid (∀k,(F k).1.length=k):=λk=>by rw[hF];exact K9 _ _ _
 have aq:Hid (∀k,(F k).2.pl<=s.length):=λk=>by rw[hF];exact Vw s _ (AiN s) r1 aw k
 have cn:Hid (∀k,∀x∈(F k).1,InI x):=λk=>by rw[hF];exact Vv (λr=>by show InI ((QR s r).1:Int);have:=K5 s r;unfold InI;omega) k
 rw[<-hF]at af;obtain⟨lim,bk⟩:∃lim,lim=w5.heap.size:=⟨_,rfl⟩;have cl:=e5.row Ds (by omega);have HB:Hid (CgB g R D lim w.heap.size):=⟨Rh,cw,cx,by rw[bk];exact cl.lt⟩;have d:Hid (CgL s g R D lim w w5 pa (.slice none 0 0) (.slice none 0 0) (F 0).1 [] (F 0).2):=⟨by rw[hF];exact h5,cl,e5.row R4 (by omega),by rw[hF];exact World.ownsRow_nil _ _ _ _,World.ownsRow_nil _ _ _ _,b4.trans (e5.below (by omega) b4.size),LI bk⟩;clear hF bk cl e5 h5 R4 b4 a2 bm aw r4 Ds cx cw Rh;go_wp2_with fail
 go_loopw [20] (λi wr=>∃(k:Nat) (v:Value),i=.int .i64 (k:Int)/\k<=m/\Hid (CgL s g R D lim w wr pa v (.slice none 0 0) (F k).1 [] (F k).2)) (λi _=>m-(intOf i).toNat)
 case atStart=>exact⟨0,_,rfl,Nat.zero_le _,d⟩
 case round=>
  clear d;obtain⟨k,v,rfl,hk,d⟩:=hrel;by_cases da:k<m
  ·have dj:(k:Int)<(m:Int):=by omega
   go_wp2_with fail
   obtain⟨i0,dm,dq,dr,ds⟩:=info_parts Ju;have cu:=aq.out k;have c7:=a8.out k;obtain⟨Vd,cg⟩:∃Vd,Vd=wr.drew:=⟨_,rfl⟩;have bd:Below wr.heap.size wr Vd:=by rw[cg];exact St.drew (S:=λW=>Below wr.heap.size wr W) (Below.refl _ _)
   have h0:=d.out.go bd;clear d;obtain⟨S2,bh⟩:∃S2,S2=(λW=>Row W D 25 #[.int .i64 pa,v,.slice none 0 0]):=⟨_,rfl⟩;have U0:Hid (∀W,S2 W->Row W D 25 #[.int .i64 pa,v,.slice none 0 0]):=by show ∀W,_;rw[bh];exact λW h=>h
   have U1:Hid (∀W,Row W D 25 #[.int .i64 pa,v,.slice none 0 0]->S2 W):=by show ∀W,_;rw[bh];exact λW h=>h
   clear bh;have c4:S2 Vd:=U1.out _ h0.row;refine Aha ?_;refine J2 (last:=8) (S:=S2) (by kernel_rfl) ?_;simp only[Ly,Le,Ll,Nat.reduceAdd,Ln,Lp,Lz,Lu,Lk];rw[<-cg];clear cg bd;(refine Zr (i:=0) (v:=.pointer (some ⟨D,1,none⟩)) rfl (by kernel_rfl) (by kernel_rfl) (by kernel_rfl) (by kernel_rfl) (λ_ _ _ h=>h) (QB (Qd rfl (λW hW=>by(go_simp)))) (by assumption) ?_;simp only[Act.put,Qa,Qb,Qc]);(refine Zr (i:=1) (v:=v) rfl (by kernel_rfl) (by kernel_rfl) (by kernel_rfl) (by kernel_rfl) (λ_ _ _ h=>h) (QB (Qd rfl (λW hW=>by((have c:=(U0.out W hW).cellv (i:=1) (v:=v) rfl;go_simp))))) (by assumption) ?_;simp only[Act.put,Qa,Qb,Qc]);(refine Zr (i:=2) (v:=.pointer (some ⟨g,0,none⟩)) rfl (by kernel_rfl) (by kernel_rfl) (by kernel_rfl) (by kernel_rfl) (λ_ _ _ h=>h) (QB (Qd rfl (λW hW=>by(go_simp)))) (by assumption) ?_;simp only[Act.put,Qa,Qb,Qc]);(refine Qp (rs:=[3]) (by kernel_rfl) (by simp) (λi hi=>?_);obtain rfl:i=3:=by simpa using hi);refine Qg rfl rfl (λK2 am=>?_);refine Qm 143 #[.pointer (some ⟨g,0,none⟩)] (w1:=Vd) (by go_simp) ((KX g s (F k).2 cu Hs.out Vd h0.rd).mono ?_);rintro e V3 ⟨rfl,q1,e3⟩;refine⟨_,rfl,?_⟩;refine am _ _ ?_;clear am K2;simp only[Act.put,Qa,Qb,Qc];have h3:=h0.eff HB.out e3 q1;clear h0 c4 e3 q1;have cq:S2 V3:=U1.out _ h3.row;refine⟨λ_=>cq,?_⟩;have a:Hid (F (k+1)=((F k).1++[((QR s (F k).2).1:Int)],(QR s (F k).2).2)):=HF.out k;have ag:=K5 s (F k).2;obtain⟨⟨x,r2⟩,hx⟩:∃p,p=QR s (F k).2:=⟨_,rfl⟩;rw[<-hx]at h3 a ag|-;clear hx;dsimp only at h3 a ag|-;have dd:IntKind.i64.wrap (x:Int)=(x:Int):=IntWalk.i64_in _ (by omega);(refine Zr (i:=4) (v:=.int .i64 (x:Int)) rfl (by kernel_rfl) (by kernel_rfl) (by kernel_rfl) (by kernel_rfl) (λ_ _ _ h=>h) (QB (Qd rfl (λW hW=>by(go_simp)))) (by assumption) ?_;simp only[Act.put,Qa,Qb,Qc]);have db:∀W:World,(Instr.buildSlice 22 1 #[(0,.int .i64 (x:Int))]).run Tryz.prog W=.ok (.slice (some ⟨W.heap.size,0,none⟩) 1 1) (W.alloc (.cells #[.int .i64 (x:Int)] 3)):=λW=>by kernel_rfl
   (refine Qp (rs:=[5]) (by kernel_rfl) (by simp) (λi hi=>?_);obtain rfl:i=5:=by simpa using hi);refine Qg rfl rfl (λK2 am=>?_);refine Qr (.slice (some ⟨V3.heap.size,0,none⟩) 1 1) (w1:=V3.alloc (.cells #[.int .i64 (x:Int)] 3)) (by go_simp) ?_;refine am _ _ ?_;clear am K2 db;simp only[Act.put,Qa,Qb,Qc];obtain⟨M,hM⟩:∃M,M=V3.heap.size:=⟨_,rfl⟩;obtain⟨V4,b1⟩:∃V4,V4=V3.alloc (.cells #[.int .i64 (x:Int)] 3):=⟨_,rfl⟩;have rM:Row V4 M 3 #[.int .i64 (x:Int)]:=by rw[b1,hM];exact Row.new _ _ _
   have bM:Below V3.heap.size V3 V4:=by rw[b1];exact(Below.refl _ _).alloc (Nat.le_refl _) _
   rw[<-hM, <-b1];clear hM b1;have h4:=h3.go bM;clear h3 bM cq;refine⟨λ_=>U1.out _ h4.row,?_⟩;obtain⟨v',V5,cb,bu,g5, -⟩:=Zq (P:=Tryz.prog) 22 3 (.int .i64 0) 1 8 Tryz.underlying22 Ju rfl (by decide) (by decide) h4.vo h4.lim (Z6 (cs:=Qj [(x:Int)]) (by simpa[Qj]using rM)) (m:=1) (cap:=1) rfl (λu hu=>by simp only[Qj,LL]at hu;obtain⟨_,_,rfl⟩:=hu;rfl) (by simp) (by omega);have b0:S2 V5:=U1.out _ (h4.row.grown g5 (QK h4.vo h4.row (by decide)));have HN:=Lv (h4.vset HB.out g5 bu);rw[<-show(F (k+1)).1=(F k).1++[(x:Int)] by rw[a.out], <-show(F (k+1)).2=r2 by rw[a.out]]at HN;have f5:=(U0.out _ b0).free 1;have c5:=(U0.out _ b0).cellv (i:=1) (v:=v) rfl;(refine Qp (rs:=[6]) (by kernel_rfl) (by simp) (λi hi=>?_);obtain rfl:i=6:=by simpa using hi);refine Qg rfl rfl (λK2 am=>?_);refine Qr _ (QF rfl cb) ?_;refine am _ _ ?_;clear am K2 cb;simp only[Act.put,Qa,Qb,Qc];refine⟨λ_=>b0,?_⟩;(refine Zr (i:=7) (v:=.pointer (some ⟨D,1,none⟩)) rfl (by kernel_rfl) (by kernel_rfl) (by kernel_rfl) (by kernel_rfl) (λ_ _ _ h=>h) (QB (Qd rfl (λW hW=>by(go_simp)))) (by assumption) ?_;simp only[Act.put,Qa,Qb,Qc]);obtain⟨A',m',c',rfl⟩:∃A m c,v'=.slice A m c:=Ji bu;(refine Qp (rs:=[8]) (by kernel_rfl) (by simp) (λi hi=>?_);obtain rfl:i=8:=by simpa using hi);refine Qg rfl rfl (λK2 am=>?_);unfold Oper.wp;clear rM h4 bu g5 hi cu c7 b0 dd ag a;go_simp
   refine am _ _ ?_;clear am K2;simp only[Qa,Qb,Qc];refine⟨λh=>absurd rfl h,?_⟩;refine Zv (by kernel_rfl) ?_ _;refine JW ?_;go_wp2_with fail
   refine⟨⟨k+1,_,by(first|go_num|simp),by omega,HN⟩,?_⟩
   simp[intOf];omega
  ·obtain rfl:k=m:=by omega
   clear da hk;go_wp2_with fail
   refine(Zi g s (F k).2 200 (aq.out k) Hs.out (by decide) (by decide) wr d.out.rd).mono ?_;rintro e w6 ⟨rfl,h6,e6⟩;have a4:=Lv (d.out.eff HB.out e6 h6);have a3:=Z3 (s:=s) (r:=(F k).2) (most:=200) (by decide);have ca:=Jj (s:=s) (r:=(F k).2) (most:=200) (aq.out k);rw[<-QV]at a3;unfold pdA at af;have a6:=Lv (cn.out k);have cd:=Lv (a8.out k);obtain⟨⟨c,r4⟩,hc⟩:∃p,p=Qo s (F k).2 200:=⟨_,rfl⟩;rw[<-hc]at a4 a3 ca af|-;obtain⟨Vl,cr⟩:∃Vl,Vl=(F k).1:=⟨_,rfl⟩;rw[<-cr]at a4 af a6 cd;clear hc h6 e6 d HF a8 aq cn cr;dsimp only at a4 a3 ca af|-;obtain⟨n,rfl⟩:=LA a3.1;rw[L0]at af;have hn:(n:Int)<=200:=a3.2;obtain⟨G,hG⟩:∃G,G=Zu (λr=>decide (ZB s r=5)) (U5 s) r4:=⟨_,rfl⟩;have be:Hid (∀j,ZB s (G j).2=5->G (j+1)=((G j).1++[(U5 s (G j).2).1],(U5 s (G j).2).2)):=λj h=>by rw[hG]at h|-;rw[Zu,if_pos (by simpa using h)]
   have cc:Hid (∀j i,¬ZB s (G j).2=5->G (j+i)=G j):=λj i h=>by rw[hG]at h|-;exact AcQ (by simpa using h) i
   have aq:Hid (∀j,(G j).2.pl<=s.length):=λj=>by rw[hG];exact Abo s _ _ (Aly s) r4 ca j
   have bx:Hid (∀j,∀x∈(G j).1,InI x.tag/\InI x.n):=λj=>by rw[hG];exact Vv (λr=>Alx s r) j
   rw[<-hG]at af;have d:Hid (CgL s g R D lim w w6 pa v (.slice none 0 0) Vl (G 0).1 (G 0).2):=by rw[hG];exact a4.out
   have cz:Hid ((G 0).1.length=0):=by rw[hG];rfl
   clear hG a4 a3 ca;go_wp2_with fail
   go_step3
   go_wp2_with fail
   go_loopw [7] (λ_ wr=>∃(j:Nat) (A:Option Addr) (cap:Nat),j<=n/\Hid ((G j).1.length=j)/\Hid (CgL s g R D lim w wr pa v (.slice A j cap) Vl (G j).1 (G j).2)) (λ_ wr=>n-Vy wr ⟨D,2,none⟩)
   case atStart=>exact⟨0,none,0,Nat.zero_le _,cz,d⟩
   case round=>
    clear d;obtain⟨j,A,cap,hj,ai,d⟩:=hrel;have c2:=d.out.row.cellv (i:=2) (v:=.slice A j cap) rfl;have bc:Hid (Vy wr ⟨D,2,none⟩=j):=by show _=_;unfold Vy;rw[c2]
    by_cases c6:j<n;rotate_left
    ·obtain rfl:j=n:=by omega
     clear c6 hj;obtain⟨p,ab,ar,br,bi,rfl,bg⟩:=d.out.pg co.out a6.out (bx.out j);have q:=d.out.row;rw[bg]at q;have ao:=d.out.res;have a1:=d.out.b;have ah:p.pd=KH s:=by rw[af.out];exact ab
     have ag:p.body.length<=1000:=by have e:p.body=(G j).1:=congrArg Pd.body ab;rw[e,ai.out];omega
     have bs:p.V.length<=1000:=by have e:p.V=Vl:=congrArg Pd.V ab;rw[e,cd.out];omega
     have bp:p.params=pa:=congrArg Pd.params ab;rw[<-bp]at q;have HP:=Lv (YC p ag wr ar);have al:Hid (∀W,Below (wr).heap.size wr W->Row W D 25 p.cells/\Row W R 25 #[.int .i64 0,.slice none 0 0,.slice none 0 0]/\p.ok W/\RowB W 3 p.va/\RowB W 52 p.ba/\Below w.heap.size w W):=λW b=>⟨q.below b q.lt,ao.below b ao.lt,ar.go b,br.go b,bi.go b,a1.trans (b.mono a1.size)⟩;have av:Hid (p.body.length<=1000/\p.V.length<=1000):=⟨ag,bs⟩;have a9:=Lv ah;have hz:YT p=Ys (KH s):=by rw[<-ah];unfold YT Ys;rw[Y4]
     have a7:Hid (∀y∈(KH s).body,InI y.n):=λy hy=>by rw[<-ah]at hy;exact(ar.bin y hy).2
     rw[hz]at HP;clear ab ar br bi bg ao a1 ah ag bs bp hz d ai be cc aq bx;go_wp2_with (refine wpList_load_row rfl 25 _ rfl D rfl 25 p.cells (0,0) _ q Tryz.underlying25 rfl (by kernel_rfl) ?_)
     by_cases hr:Afb (KH s)/\JD (KH s)=s
     ·have hp:Ys (KH s)=(s,0):=by unfold Ys;rw[if_neg (λh=>h hr.1.1),hr.2]
      rw[hp]at HP;obtain rfl:pd=(KH s,0):=bz.out.trans (Jf (rd:=KH) (λx h=>YQ h) hr.1 hr.2);clear hr hp;refine HP.out.mono ?_;rintro e w8 ⟨rfl,b8⟩;have HE:=Lv (al.out _ b8);have bw:=HE.out.1;have ae:=HE.out.2.1;clear HP al b8 q;go_wp2_with (first| (refine wpList_load_row rfl 25 _ rfl D rfl 25 p.cells (0,0) _ bw Tryz.underlying25 rfl (by kernel_rfl) ?_)| (refine Qk _ _ _ rfl ?_))
      refine Stop.to ?_;refine Qh rfl 25 _ _ rfl R p.cells rfl rfl 25 _ ae (by kernel_rfl) rfl (by simp[Value.oneCell',PgV.cells]) ?_;intro w9 r9 o9;have ay:=Lv (AgW HE.out.2.2.1 HE.out.2.2.2.1 HE.out.2.2.2.2.1 o9 ae (by decide) (by decide));have aj:=Lv (Ql HE.out.2.2.2.2.2 o9 (by have:=HB.out.n;omega));clear o9 bw ae HE;go_wp2_with fail
      try rw[Exit.noGoto_ret]
      refine bodyPost_ret (Qv Tryz.results111 _ _ R 25 _ (0,0) _ rfl r9 Tryz.underlying25 rfl (by kernel_rfl)) rfl ?_;exact ap.out _ _ p ⟨rfl,a9.out,ay.out.1,av.out.1,av.out.2,ay.out.2.1,ay.out.2.2,aj.out⟩
     ·obtain rfl:pd=(⟨0,[],[]⟩,12):=bz.out.trans (XT (rd:=KH) (λx h=>YQ h) hr);obtain⟨⟨t,e0⟩,hp⟩:∃p,p=Ys (KH s):=⟨_,rfl⟩;rw[<-hp]at HP
      have bl:¬(e0=0/\t=s):=λh=>hr (by
       unfold Ys at hp
       by_cases h1:QP (KH s).pg=0
       ·rw[if_neg (λk=>k h1)]at hp;injection hp with aw _;exact⟨⟨h1,a7.out⟩,by rw[<-aw,h.2]⟩
       ·rw[if_pos h1]at hp;injection hp with _ hp2;rw[h.1]at hp2;exact absurd hp2.symm h1)
      have bq:e0=0->(t==s)=false:=λh0=>by simpa using λe=>bl ⟨h0,e⟩
      have az:=Lv bq;have dg:∀W:World,(Instr.build 25 #[]).run Tryz.prog W=.ok (.agg #[.int .i64 0,.slice none 0 0,.slice none 0 0]) W:=λW=>by kernel_rfl
      clear hr hp bl bq;refine HP.out.mono ?_;rintro e w8 ⟨rfl,b8⟩;have HE:=Lv (al.out _ b8).2.2.2.2.2;have ae:=(al.out _ b8).2.1;clear HP al b8 q;by_cases he:e0=0
      ·have dc:=az.out he;subst he;clear az;go_wp2_with (refine Qk _ _ _ rfl ?_)
       refine Stop.to ?_;refine Qh rfl 25 _ _ rfl R #[.int .i64 0,.slice none 0 0,.slice none 0 0] rfl rfl 25 _ ae (by kernel_rfl) rfl (by simp[Value.oneCell']) ?_;intro w9 r9 o9;have aj:=Lv (Ql HE.out o9 (by have:=HB.out.n;omega));clear o9 ae HE;go_wp2_with fail
       try rw[Exit.noGoto_ret]
       refine bodyPost_ret (Qv Tryz.results111 _ _ R 25 _ (0,0) _ rfl r9 Tryz.underlying25 rfl (by kernel_rfl)) rfl ?_;exact ap.out _ _ ⟨0,none,0,[],none,0,[]⟩ ⟨rfl,rfl,(UA _).pok,by simp,by simp,λad h=>(by cases h),λad h=>(by cases h),aj.out⟩
      ·clear az;go_wp2_with (refine Qk _ _ _ rfl ?_)
       refine Stop.to ?_;refine Qh rfl 25 _ _ rfl R #[.int .i64 0,.slice none 0 0,.slice none 0 0] rfl rfl 25 _ ae (by kernel_rfl) rfl (by simp[Value.oneCell']) ?_;intro w9 r9 o9;have aj:=Lv (Ql HE.out o9 (by have:=HB.out.n;omega));clear o9 ae HE;go_wp2_with fail
       try rw[Exit.noGoto_ret]
       refine bodyPost_ret (Qv Tryz.results111 _ _ R 25 _ (0,0) _ rfl r9 Tryz.underlying25 rfl (by kernel_rfl)) rfl ?_;exact ap.out _ _ ⟨0,none,0,[],none,0,[]⟩ ⟨rfl,rfl,(UA _).pok,by simp,by simp,λad h=>(by cases h),λad h=>(by cases h),aj.out⟩
    have dn:(j:Int)<(n:Int):=by omega
    go_wp2_with fail
    refine(Aa8 g s (G j).2 wr d.out.rd).mono ?_;rintro e w7 ⟨rfl,b7,_⟩;replace d:=Lv (d.out.go b7);clear b7 c2;by_cases h5:ZB s (G j).2=5;rotate_left
    ·have c3:(ZB s (G j).2 != 5)=true:=by simpa using h5
     have cp:G n=G j:=by
      have:=cc.out j (n-j) h5;rwa[show j+(n-j)=n by omega]at this
     rw[cp]at af;clear cp h5;obtain⟨p,ab,ar,br,bi,rfl,bg⟩:=d.out.pg co.out a6.out (bx.out j);have q:=d.out.row;rw[bg]at q;have ao:=d.out.res;have a1:=d.out.b;have ah:p.pd=KH s:=by rw[af.out];exact ab
     have ag:p.body.length<=1000:=by have e:p.body=(G j).1:=congrArg Pd.body ab;rw[e,ai.out];omega
     have bs:p.V.length<=1000:=by have e:p.V=Vl:=congrArg Pd.V ab;rw[e,cd.out];omega
     have bp:p.params=pa:=congrArg Pd.params ab;rw[<-bp]at q;have HP:=Lv (YC p ag w7 ar);have al:Hid (∀W,Below (w7).heap.size w7 W->Row W D 25 p.cells/\Row W R 25 #[.int .i64 0,.slice none 0 0,.slice none 0 0]/\p.ok W/\RowB W 3 p.va/\RowB W 52 p.ba/\Below w.heap.size w W):=λW b=>⟨q.below b q.lt,ao.below b ao.lt,ar.go b,br.go b,bi.go b,a1.trans (b.mono a1.size)⟩;have av:Hid (p.body.length<=1000/\p.V.length<=1000):=⟨ag,bs⟩;have a9:=Lv ah;have hz:YT p=Ys (KH s):=by rw[<-ah];unfold YT Ys;rw[Y4]
     have a7:Hid (∀y∈(KH s).body,InI y.n):=λy hy=>by rw[<-ah]at hy;exact(ar.bin y hy).2
     rw[hz]at HP;clear ab ar br bi bg ao a1 ah ag bs bp hz d ai be cc aq bx;go_wp2_with (refine wpList_load_row rfl 25 _ rfl D rfl 25 p.cells (0,0) _ q Tryz.underlying25 rfl (by kernel_rfl) ?_)
     by_cases hr:Afb (KH s)/\JD (KH s)=s
     ·have hp:Ys (KH s)=(s,0):=by unfold Ys;rw[if_neg (λh=>h hr.1.1),hr.2]
      rw[hp]at HP;obtain rfl:pd=(KH s,0):=bz.out.trans (Jf (rd:=KH) (λx h=>YQ h) hr.1 hr.2);clear hr hp;refine HP.out.mono ?_;rintro e w8 ⟨rfl,b8⟩;have HE:=Lv (al.out _ b8);have bw:=HE.out.1;have ae:=HE.out.2.1;clear HP al b8 q;go_wp2_with (first| (refine wpList_load_row rfl 25 _ rfl D rfl 25 p.cells (0,0) _ bw Tryz.underlying25 rfl (by kernel_rfl) ?_)| (refine Qk _ _ _ rfl ?_))
      refine Stop.to ?_;refine Qh rfl 25 _ _ rfl R p.cells rfl rfl 25 _ ae (by kernel_rfl) rfl (by simp[Value.oneCell',PgV.cells]) ?_;intro w9 r9 o9;have ay:=Lv (AgW HE.out.2.2.1 HE.out.2.2.2.1 HE.out.2.2.2.2.1 o9 ae (by decide) (by decide));have aj:=Lv (Ql HE.out.2.2.2.2.2 o9 (by have:=HB.out.n;omega));clear o9 bw ae HE;go_wp2_with fail
      try rw[Exit.noGoto_ret]
      refine bodyPost_ret (Qv Tryz.results111 _ _ R 25 _ (0,0) _ rfl r9 Tryz.underlying25 rfl (by kernel_rfl)) rfl ?_;exact ap.out _ _ p ⟨rfl,a9.out,ay.out.1,av.out.1,av.out.2,ay.out.2.1,ay.out.2.2,aj.out⟩
     ·obtain rfl:pd=(⟨0,[],[]⟩,12):=bz.out.trans (XT (rd:=KH) (λx h=>YQ h) hr);obtain⟨⟨t,e0⟩,hp⟩:∃p,p=Ys (KH s):=⟨_,rfl⟩;rw[<-hp]at HP
      have bl:¬(e0=0/\t=s):=λh=>hr (by
       unfold Ys at hp
       by_cases h1:QP (KH s).pg=0
       ·rw[if_neg (λk=>k h1)]at hp;injection hp with aw _;exact⟨⟨h1,a7.out⟩,by rw[<-aw,h.2]⟩
       ·rw[if_pos h1]at hp;injection hp with _ hp2;rw[h.1]at hp2;exact absurd hp2.symm h1)
      have bq:e0=0->(t==s)=false:=λh0=>by simpa using λe=>bl ⟨h0,e⟩
      have az:=Lv bq;have dg:∀W:World,(Instr.build 25 #[]).run Tryz.prog W=.ok (.agg #[.int .i64 0,.slice none 0 0,.slice none 0 0]) W:=λW=>by kernel_rfl
      clear hr hp bl bq;refine HP.out.mono ?_;rintro e w8 ⟨rfl,b8⟩;have HE:=Lv (al.out _ b8).2.2.2.2.2;have ae:=(al.out _ b8).2.1;clear HP al b8 q;by_cases he:e0=0
      ·have dc:=az.out he;subst he;clear az;go_wp2_with (refine Qk _ _ _ rfl ?_)
       refine Stop.to ?_;refine Qh rfl 25 _ _ rfl R #[.int .i64 0,.slice none 0 0,.slice none 0 0] rfl rfl 25 _ ae (by kernel_rfl) rfl (by simp[Value.oneCell']) ?_;intro w9 r9 o9;have aj:=Lv (Ql HE.out o9 (by have:=HB.out.n;omega));clear o9 ae HE;go_wp2_with fail
       try rw[Exit.noGoto_ret]
       refine bodyPost_ret (Qv Tryz.results111 _ _ R 25 _ (0,0) _ rfl r9 Tryz.underlying25 rfl (by kernel_rfl)) rfl ?_;exact ap.out _ _ ⟨0,none,0,[],none,0,[]⟩ ⟨rfl,rfl,(UA _).pok,by simp,by simp,λad h=>(by cases h),λad h=>(by cases h),aj.out⟩
      ·clear az;go_wp2_with (refine Qk _ _ _ rfl ?_)
       refine Stop.to ?_;refine Qh rfl 25 _ _ rfl R #[.int .i64 0,.slice none 0 0,.slice none 0 0] rfl rfl 25 _ ae (by kernel_rfl) rfl (by simp[Value.oneCell']) ?_;intro w9 r9 o9;have aj:=Lv (Ql HE.out o9 (by have:=HB.out.n;omega));clear o9 ae HE;go_wp2_with fail
       try rw[Exit.noGoto_ret]
       refine bodyPost_ret (Qv Tryz.results111 _ _ R 25 _ (0,0) _ rfl r9 Tryz.underlying25 rfl (by kernel_rfl)) rfl ?_;exact ap.out _ _ ⟨0,none,0,[],none,0,[]⟩ ⟨rfl,rfl,(UA _).pok,by simp,by simp,λad h=>(by cases h),λad h=>(by cases h),aj.out⟩
    have c3:(ZB s (G j).2 != 5)=false:=by simp[h5]
    have a:=Lv (be.out j h5);clear h5;go_wp2_with fail
    refine(KX g s (G j).2 (aq.out j) Hs.out w7 d.out.rd).mono ?_;rintro e w8 ⟨rfl,q8,e8⟩;replace d:=Lv (d.out.eff HB.out e8 q8);have ag:=K5 s (G j).2;have b3:=KI (s:=s) (aq.out j);unfold U5 at a;obtain⟨⟨bn,rb⟩,hb⟩:∃p,p=QR s (G j).2:=⟨_,rfl⟩;rw[<-hb]at d ag b3 a|-;clear hb q8 e8;dsimp only at d ag b3 a|-;have dp:IntKind.i64.wrap (bn:Int)=(bn:Int):=IntWalk.i64_in _ (by omega);have df:∀W:World,(Instr.build 52 #[(0,.int .i64 (bn:Int))]).run Tryz.prog W=.ok (.agg #[.int .i64 (bn:Int),.int .i64 0]) W:=λW=>by kernel_rfl
    go_wp2_with (first|fail| (refine Qs _ rfl ?_))
    refine Stop.to ?_;refine Qi rfl 52 rfl _ _ (Ae5 _) rfl ?_;intro X Xw Xh Xr Xb;go_wp2_with (refine Qk _ _ _ rfl ?_)
    refine Stop.to ?_;refine Qh rfl 52 _ _ rfl X #[.int .i64 (bn:Int),.int .i64 0] rfl rfl 52 _ Xr (by kernel_rfl) rfl (by simp[Value.oneCell']) ?_;intro Xx Xs Xo;have Xc:=(Xb.mono Xh).trans (Xo.below Xh);clear Xb Xr Xo;have dk:g<X:=Lg d.out.rd.lt Xh;have ct:lim<=X:=Lj d.out.lim Xh;have b9:v.ownBlock≠some X/\Value.ownBlock (.slice A j cap)≠some X:=⟨λe=>by have:=(d.out.vo.lt _ e).2;omega,λe=>by have:=(d.out.bo.lt _ e).2;omega⟩;replace d:=Lv (d.out.go Xc);have c0:=Xs.cellv (i:=0) (v:=.int .i64 (bn:Int)) rfl;clear Xc Xh df;go_wp2_with fail
    refine(AjL (bn:Int) Xx).mono ?_;rintro e dt ⟨rfl,ce⟩;replace d:=Lv (d.out.go ce);have Xr:=Xs.below ce Xs.lt;clear ce Xs c0;rcases AgQ (bn:Int)with bj|bj|bj
    ·rw[bj]at a|-;rw[if_neg (by decide),if_neg (by decide)]at a;go_wp2_with (refine Qs _ rfl ?_)
     refine Stop.to ?_;refine Qi rfl 122 rfl _ _ (Kx _) rfl ?_;intro Fm V4 hR rR bR;go_wp2_with (refine Qk _ _ _ rfl ?_)
     refine Stop.to ?_;refine Qh rfl 122 _ _ rfl Fm (ZG 0) rfl rfl 122 _ rR (by kernel_rfl) rfl (by simp[ZG,Value.oneCell']) ?_;intro V5 r5 o5;have b5:=(bR.mono hR).trans (o5.below hR);replace d:=Lv (d.out.go b5);replace Xr:=Xr.below b5 Xr.lt;clear rR bR hR o5 b5;clear r5;skip;have c5:=d.out.row.cellv (i:=2) (v:=.slice A j cap) rfl;have f5:=d.out.row.free 2;go_wp2_with (first| (refine wpList_load_row rfl 52 _ rfl X rfl 52 #[.int .i64 (bn:Int),.int .i64 (0)] (0,0) _ Xr Tryz.underlying52 rfl (by kernel_rfl) ?_)| (refine QY _ _ _ rfl ?_))
     refine Stop.to ?_;refine Qw rfl 23 1 _ rfl 52 #[.int .i64 (bn:Int),.int .i64 (0)] (λW=>by kernel_rfl) ?_;intro M W8 hM rM bM;replace d:=Lv (d.out.go (bM.mono hM));have an:=d.out.bo;rw[ai.out]at an;obtain⟨v8,W9,ac,o,aa, -⟩:=Yb (l:=[⟨(bn:Int),0⟩]) (m:=1) (cap:=1) an d.out.lim (Z6 (cs:=[.int .i64 (bn:Int),.int .i64 (0)]) rM) rfl (by simp) (by omega);obtain⟨A8,c8,rfl⟩:=JQ o;have z:=d.out.row.grown aa (QK d.out.bo d.out.row (by decide));have HN:=d.out.bset HB.out aa (by rw[ai.out];exact o);rw[<-show(G (j+1)).1=(G j).1++[⟨(bn:Int),0⟩] by rw[a.out]]at HN;rw[<-show(G (j+1)).2=rb by rw[a.out]]at HN;have au:Hid ((G (j+1)).1.length=j+1):=by rw[a.out];show List.length _=_;rw[La,ai.out];rfl
     have ax:Vy (W9.setCell ⟨D,2,none⟩ (.slice A8 (j+1) c8)) ⟨D,2,none⟩=j+1:=by unfold Vy;rw[HN.row.cellv (i:=2) (v:=.slice A8 (j+1) c8) rfl]
     have bb:=Lv ax;have a5:=Lv HN;have ak:=Lv ac;have c9:=z.cellv (i:=2) (v:=.slice A j cap) rfl;have f9:=z.free 2;clear hM rM bM an o aa z HN ax ac Xr c5 f5 d;refine Zc rfl _ (QF rfl ak.out) ?_;go_wp2_with fail
     go_roundw
     case rel=>exact⟨j+1,A8,c8,by omega,au,a5⟩
     case measure=>rw[bb.out,bc.out];omega
    ·rw[bj]at a|-;rw[if_neg (by decide),if_pos rfl]at a;go_wp2_with (refine Qs _ rfl ?_)
     refine Stop.to ?_;refine Qi rfl 122 rfl _ _ (Kx _) rfl ?_;intro Fm V4 hR rR bR;go_wp2_with (refine Qk _ _ _ rfl ?_)
     refine Stop.to ?_;refine Qh rfl 122 _ _ rfl Fm (ZG 1) rfl rfl 122 _ rR (by kernel_rfl) rfl (by simp[ZG,Value.oneCell']) ?_;intro V5 r5 o5;have b5:=(bR.mono hR).trans (o5.below hR);replace d:=Lv (d.out.go b5);replace Xr:=Xr.below b5 Xr.lt;clear rR bR hR o5 b5;have cf:=r5.cellv (i:=1) (v:=.func (.func 162) #[] #[]) rfl;have HK:=Lv (AlC g s rb b3 Hs.out V5 d.out.rd);clear r5;go_wp2_with fail
     refine HK.out.mono ?_;rintro e dh ⟨rfl,bv,a0⟩;have ch:X≠g:=by omega
     replace Xr:=a0.row Xr ch;replace d:=Lv (d.out.eff HB.out a0 bv);obtain⟨⟨nv,rc⟩,hb⟩:∃p,p=Qo s rb 200:=⟨_,rfl⟩;rw[<-hb]at d a|-;clear hb bv a0 HK cf;dsimp only at d a|-;have c1:=Xr.cellv (i:=1) (v:=.int .i64 0) rfl;have f1:=Xr.free 1;go_wp2_with (refine Qk _ _ _ rfl ?_)
     refine Stop.to ?_;refine Qt rfl 3 _ _ rfl X 1 rfl (.int .i64 nv) rfl [.int .i64 nv] rfl 52 _ #[.int .i64 (bn:Int),.int .i64 nv] Xr (by kernel_rfl) (by show 1+1<=2;omega) (by simp[Value.oneCell']) rfl ?_;intro di Xr bt;replace d:=Lv (d.out.onlyX HB.out bt ct b9.1 b9.2);clear bt c1 f1;skip;have c5:=d.out.row.cellv (i:=2) (v:=.slice A j cap) rfl;have f5:=d.out.row.free 2;go_wp2_with (first| (refine wpList_load_row rfl 52 _ rfl X rfl 52 #[.int .i64 (bn:Int),.int .i64 (nv)] (0,0) _ Xr Tryz.underlying52 rfl (by kernel_rfl) ?_)| (refine QY _ _ _ rfl ?_))
     refine Stop.to ?_;refine Qw rfl 23 1 _ rfl 52 #[.int .i64 (bn:Int),.int .i64 (nv)] (λW=>by kernel_rfl) ?_;intro M W8 hM rM bM;replace d:=Lv (d.out.go (bM.mono hM));have an:=d.out.bo;rw[ai.out]at an;obtain⟨v8,W9,ac,o,aa, -⟩:=Yb (l:=[⟨(bn:Int),nv⟩]) (m:=1) (cap:=1) an d.out.lim (Z6 (cs:=[.int .i64 (bn:Int),.int .i64 (nv)]) rM) rfl (by simp) (by omega);obtain⟨A8,c8,rfl⟩:=JQ o;have z:=d.out.row.grown aa (QK d.out.bo d.out.row (by decide));have HN:=d.out.bset HB.out aa (by rw[ai.out];exact o);rw[<-show(G (j+1)).1=(G j).1++[⟨(bn:Int),nv⟩] by rw[a.out]]at HN;rw[<-show(G (j+1)).2=rc by rw[a.out]]at HN;have au:Hid ((G (j+1)).1.length=j+1):=by rw[a.out];show List.length _=_;rw[La,ai.out];rfl
     have ax:Vy (W9.setCell ⟨D,2,none⟩ (.slice A8 (j+1) c8)) ⟨D,2,none⟩=j+1:=by unfold Vy;rw[HN.row.cellv (i:=2) (v:=.slice A8 (j+1) c8) rfl]
     have bb:=Lv ax;have a5:=Lv HN;have ak:=Lv ac;have c9:=z.cellv (i:=2) (v:=.slice A j cap) rfl;have f9:=z.free 2;clear hM rM bM an o aa z HN ax ac Xr c5 f5 d;refine Zc rfl _ (QF rfl ak.out) ?_;go_wp2_with fail
     go_roundw
     case rel=>exact⟨j+1,A8,c8,by omega,au,a5⟩
     case measure=>rw[bb.out,bc.out];omega
    ·rw[bj]at a|-;rw[if_pos rfl]at a;go_wp2_with (refine Qs _ rfl ?_)
     refine Stop.to ?_;refine Qi rfl 122 rfl _ _ (Kx _) rfl ?_;intro Fm V4 hR rR bR;go_wp2_with (refine Qk _ _ _ rfl ?_)
     refine Stop.to ?_;refine Qh rfl 122 _ _ rfl Fm (ZG 2) rfl rfl 122 _ rR (by kernel_rfl) rfl (by simp[ZG,Value.oneCell']) ?_;intro V5 r5 o5;have b5:=(bR.mono hR).trans (o5.below hR);replace d:=Lv (d.out.go b5);replace Xr:=Xr.below b5 Xr.lt;clear rR bR hR o5 b5;have cf:=r5.cellv (i:=1) (v:=.func (.func 161) #[] #[]) rfl;have HK:=Lv (Vm g s rb b3 Hs.out V5 d.out.rd);clear r5;go_wp2_with fail
     refine HK.out.mono ?_;rintro e dh ⟨rfl,bv,a0⟩;have ch:X≠g:=by omega
     replace Xr:=a0.row Xr ch;replace d:=Lv (d.out.eff HB.out a0 bv);obtain⟨⟨nv,rc⟩,hb⟩:∃p,p=JH s rb:=⟨_,rfl⟩;rw[<-hb]at d a|-;clear hb bv a0 HK cf;dsimp only at d a|-;have c1:=Xr.cellv (i:=1) (v:=.int .i64 0) rfl;have f1:=Xr.free 1;go_wp2_with (refine Qk _ _ _ rfl ?_)
     refine Stop.to ?_;refine Qt rfl 3 _ _ rfl X 1 rfl (.int .i64 nv) rfl [.int .i64 nv] rfl 52 _ #[.int .i64 (bn:Int),.int .i64 nv] Xr (by kernel_rfl) (by show 1+1<=2;omega) (by simp[Value.oneCell']) rfl ?_;intro di Xr bt;replace d:=Lv (d.out.onlyX HB.out bt ct b9.1 b9.2);clear bt c1 f1;skip;have c5:=d.out.row.cellv (i:=2) (v:=.slice A j cap) rfl;have f5:=d.out.row.free 2;go_wp2_with (first| (refine wpList_load_row rfl 52 _ rfl X rfl 52 #[.int .i64 (bn:Int),.int .i64 (nv)] (0,0) _ Xr Tryz.underlying52 rfl (by kernel_rfl) ?_)| (refine QY _ _ _ rfl ?_))
     refine Stop.to ?_;refine Qw rfl 23 1 _ rfl 52 #[.int .i64 (bn:Int),.int .i64 (nv)] (λW=>by kernel_rfl) ?_;intro M W8 hM rM bM;replace d:=Lv (d.out.go (bM.mono hM));have an:=d.out.bo;rw[ai.out]at an;obtain⟨v8,W9,ac,o,aa, -⟩:=Yb (l:=[⟨(bn:Int),nv⟩]) (m:=1) (cap:=1) an d.out.lim (Z6 (cs:=[.int .i64 (bn:Int),.int .i64 (nv)]) rM) rfl (by simp) (by omega);obtain⟨A8,c8,rfl⟩:=JQ o;have z:=d.out.row.grown aa (QK d.out.bo d.out.row (by decide));have HN:=d.out.bset HB.out aa (by rw[ai.out];exact o);rw[<-show(G (j+1)).1=(G j).1++[⟨(bn:Int),nv⟩] by rw[a.out]]at HN;rw[<-show(G (j+1)).2=rc by rw[a.out]]at HN;have au:Hid ((G (j+1)).1.length=j+1):=by rw[a.out];show List.length _=_;rw[La,ai.out];rfl
     have ax:Vy (W9.setCell ⟨D,2,none⟩ (.slice A8 (j+1) c8)) ⟨D,2,none⟩=j+1:=by unfold Vy;rw[HN.row.cellv (i:=2) (v:=.slice A8 (j+1) c8) rfl]
     have bb:=Lv ax;have a5:=Lv HN;have ak:=Lv ac;have c9:=z.cellv (i:=2) (v:=.slice A j cap) rfl;have f9:=z.free 2;clear hM rM bM an o aa z HN ax ac Xr c5 f5 d;refine Zc rfl _ (QF rfl ak.out) ?_;go_wp2_with fail
     go_roundw
     case rel=>exact⟨j+1,A8,c8,by omega,au,a5⟩
     case measure=>rw[bb.out,bc.out];omega
end Go.Proofs.YtgnmkiafeplbpaaGreatDoor
