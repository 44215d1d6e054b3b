/- Lemmas for RunnerKillsP. -/
import Derived.Test.YtkoikjnlpifbjaaGreatZk1
import Derived.Test.YtkoikjnlpifbjaaGreatZk25
set_option linter.unusedVariables false
set_option linter.unusedSimpArgs false
set_option maxRecDepth 100000
set_option maxHeartbeats 16000000
namespace Go.Proofs.YtkoikjnlpifbjaaGreat
open Go.RowKit Go.Deep
theorem AfG{w:World}:(zeroValue 187).run Tryz.prog w=.ok (.agg #[.int .i64 0,.int .i64 0,.slice none 0 0]) w:=by kernel_rfl
theorem YG{w:World}{b:Nat}{v:Value}{l:List Int}(h:w.ownsRow b 3 1 v l.length (Qi l))(hl:0<l.length):∃g cap,v=.slice (some ⟨g,0,none⟩) l.length cap/\∀(i:Nat) (a:Int),l[i]? =some a->w.cell? ⟨g,i,none⟩=some (.int .i64 a):=by
 rcases h.2 with⟨_,p⟩|⟨g,cap,c,o,q,e,s,t,m,n⟩
 ·omega
 ·refine⟨g,cap,o,λi a hi=>?_⟩;have j:i<l.length:=(La.1 hi).1;have k:Row w g 3 c:=e;refine k.cellv ?_;have d:(Qi l)[i]? =some (.int .i64 a):=by simp[Qi,hi]
  rw[<-n,LQ (by omega)]at d;rw[<-Ng];exact d
theorem UY{w:World}{b:Nat}{v:Value}{l vs:List Int}{a:Int}(h:w.ownsRow b 3 1 v l.length (Qi l))(hl:l=a::vs):∃g cap m,v=.slice (some ⟨g,0,none⟩) (m+1) cap/\w.cell? ⟨g,0,none⟩=some (.int .i64 a):=by
 subst hl;obtain⟨g,cap,d,c⟩:=YG h (by simp);exact⟨g,cap,vs.length,d,c 0 a rfl⟩
theorem Agj{w:World}{b:Nat}{v:Value}{l vs:List Int}{a c:Int}(h:w.ownsRow b 3 1 v l.length (Qi l))(hl:l=a::c::vs):∃g cap m,v=.slice (some ⟨g,0,none⟩) (m+1) cap/\1<=m/\w.cell? ⟨g,0,none⟩=some (.int .i64 a)/\w.cell? ⟨g,1,none⟩=some (.int .i64 c):=by
 subst hl;obtain⟨g,cap,e,d⟩:=YG h (by simp);exact⟨g,cap,vs.length+1,e,by omega,d 0 a rfl,d 1 c rfl⟩
theorem AlW{w:World}{b:Nat}{v:Value}{l vs:List Int}{a:Int}(h:w.ownsRow b 3 1 v l.length (Qi l))(hl:l=vs++[a]):∃g cap,v=.slice (some ⟨g,0,none⟩) (vs.length+1) cap/\w.cell? ⟨g,vs.length,none⟩=some (.int .i64 a):=by
 subst hl;obtain⟨g,cap,d,c⟩:=YG h (by simp);exact⟨g,cap,by rw[d];simp,c _ a (by simp)⟩
theorem YT{w w':World}{g:Nat}{a:Addr}{u:Value}(o:Only g w w')(h:w.cell? a=some u)(hne:a.block≠g):w'.cell? a=some u:=by
 simp only[World.cell?]at h|-;rw[o.block _ hne];exact h
theorem Ale{L:Lay}{W:World}{x:FrV}{rs:List FrV}{sv:Value}{SB cap:Nat}{cur:Array Value}(h:Top L W x rs sv SB cap cur)(j:Nat)(v:Value)(hj:x.cells[j]? =some v):W.cell? ((⟨SB,rs.length*3,none⟩:Addr).add j)=some v:=by
 have:=h.cell j v hj;unfold Addr.add;by_cases c:j=0
 ·subst c;exact this
 ·rw[if_neg c];exact this
theorem AdB (L:Lay)(hL:LOk L)(s:Ms)(f:Fr)(r:List Fr)(m':Mm)(W:World)(h:MRx L ⟨s,f::r⟩ W)(hs:LenS L.p.V s)(hat:At L.p.body f.at_ f.t)(hf:Fin f s r m')(hv:∀g∈r,g.vals.length<=1000)(hv0:f.vals.length<=1000):
 Calls Tryz.prog 113 #[.pointer (some ⟨L.M,0,none⟩)] W λe W'=>(∃u,e=.returned u)/\MRx L m' W'/\Chg L W W':=by
 obtain⟨fs,sv,ev,a4,hm⟩:=h
 obtain⟨x,rs,rfl⟩:∃x rs,fs=x::rs:=by cases fs with
  |nil=>simp at a4
  |cons x rs=>exact⟨x,rs,rfl⟩
 simp only[LP,N5]at a4;obtain⟨rfl,rfl⟩:=a4;obtain⟨SB,aj,a0,ht⟩:=Acu hm.stack;have HL:=Lh hL;have a6:=ht.sve;have b2:=ht.le;have b3:=ht.max;have few:=hm.few1;have cd:rs.length<=20001:=by have:=hm.core.sum;have:=hL.F;dsimp only at*;omega
 have b9:=hL.blen;have bc:=hat.lt;obtain⟨S,ad⟩:∃S,S=(λw=>MR L s (x::rs) sv ev w/\Top L w x rs sv SB aj a0/\Chg L W w):=⟨_,rfl⟩;have an:St S:=by rw[ad];exact⟨λh b=>⟨h.1.below hL b,h.2.1.below b,h.2.2.trans (.below (b.mono h.1.core.size))⟩⟩
 have S0:Hid (∀W,S W->MR L s (x::rs) sv ev W):=by show ∀W,_;rw[ad];exact λW h=>h.1
 have S1:Hid (∀W,S W->Top L W x rs sv SB aj a0):=by show ∀W,_;rw[ad];exact λW h=>h.2.1
 have S2:Hid (∀w,S w->Chg L W w):=by show ∀W,_;rw[ad];exact λW h=>h.2.2
 have S7:Hid (∀w,S w->w.cell? ⟨L.M,7,none⟩=some (.slice (some ⟨SB,0,none⟩) (rs.length+1) aj)):=by show ∀W,_;intro w h;rw[<-a6];exact(S0.out w h).row.cellv (i:=7) (v:=sv) rfl
 have aq:S W:=by rw[ad];exact⟨hm,ht,.refl L W⟩
 have az:=Lh hat;have Hs:=Lh hs;have Hf:=Lh hf;have a8:=Lh few;clear ad hm ht hL hat hs hf few;go_enter Tryz.func113,Tryz.ntmps113
 go_wp2_with fail
 refine wp_region_held (S:=S) (by kernel_rfl) ?_;simp only[Lk,Lc,Lo,Nat.reduceAdd,Li,Lj,Lp,Lm,Ll];show wpAnyH _ _ _ _ _ _ _ _ W.drew;have hS:S W.drew:=St.drew aq;clear aq;generalize W.drew=wd at hS|-;(refine tkH 0 (.pointer (some ⟨L.M,0,none⟩)) rfl (Qd rfl (λW hW=>by(go_simp))) ?_;simp only[Act.put,Qa,Qb,Qc]);(refine tkH 1 (.pointer (some ⟨L.M,0,none⟩)) rfl (Qd rfl (λW hW=>by(go_simp))) ?_;simp only[Act.put,Qa,Qb,Qc]);(refine tkH 2 (.pointer (some ⟨L.M,7,none⟩)) rfl (Qd rfl (λW hW=>by(go_simp))) ?_;simp only[Act.put,Qa,Qb,Qc]);(refine tkH 3 (.slice (some ⟨SB,0,none⟩) (rs.length+1) aj) rfl (Qd rfl (λW hW=>by((have h:=S7.out W hW;go_simp)))) ?_;simp only[Act.put,Qa,Qb,Qc]);(refine tkH 4 (.pointer (some ⟨L.M,0,none⟩)) rfl (Qd rfl (λW hW=>by(go_simp))) ?_;simp only[Act.put,Qa,Qb,Qc]);(refine tkH 5 (.pointer (some ⟨L.M,0,none⟩)) rfl (Qd rfl (λW hW=>by(go_simp))) ?_;simp only[Act.put,Qa,Qb,Qc]);(refine tkH 6 (.pointer (some ⟨L.M,7,none⟩)) rfl (Qd rfl (λW hW=>by(go_simp))) ?_;simp only[Act.put,Qa,Qb,Qc]);(refine tkH 7 (.slice (some ⟨SB,0,none⟩) (rs.length+1) aj) rfl (Qd rfl (λW hW=>by((have h:=S7.out W hW;go_simp)))) ?_;simp only[Act.put,Qa,Qb,Qc]);(refine tkH 8 (.int .i64 ((rs.length+1:Nat):Int)) rfl (Qd rfl (λW hW=>by(go_simp))) ?_;simp only[Act.put,Qa,Qb,Qc]);(refine tkH 9 (.int .i64 (rs.length:Int)) rfl (Qd rfl (λW hW=>by(go_simp;try exact IntWalk.i64_in _ (by omega)))) ?_;simp only[Act.put,Qa,Qb,Qc])
 (refine tkH 10 (.pointer (some ⟨SB,rs.length*3,none⟩)) rfl (Qd rfl (λW hW=>by(go_simp;try omega))) ?_;simp only[Act.put,Qa,Qb,Qc])
 (refine tkH 11 _ rfl (JI rfl 187 _ rfl ⟨SB,rs.length*3,none⟩ rfl x.cells _ (λw hw=>Ale (S1.out w hw)) Tryz.underlying187 rfl (by kernel_rfl)) ?_;simp only[Act.put,Qa,Qb,Qc]);(refine wpAnyH_all (rs:=[12]) (by kernel_rfl) (by simp) (λi hi=>?_);obtain rfl:i=12:=by simpa using hi);refine Qf rfl rfl (λK2 af=>?_);refine QD 187 rfl _ _ AfG rfl ?_;intro FB w1 av r1 b1;refine af _ _ ?_;clear af K2;simp only[Act.put,Qa,Qb,Qc];have bb:S w1:=an.go hS (b1.mono av);have b4:=(S0.out _ hS).core.size;refine⟨bb,?_⟩;(refine wpAnyH_all (rs:=[13]) (by kernel_rfl) (by simp) (λi hi=>?_);obtain rfl:i=13:=by simpa using hi);refine Qf rfl rfl (λK2 af=>?_);have bj:=Jj ((S0.out _ hS).core.fr x (by simp));refine Q6 187 (.tmp 2) (.tmp 16) rfl FB x.cells.toArray rfl rfl 187 _ r1 (by kernel_rfl) rfl (by have h:=List.all_eq_true.2 (AkI x bj);simpa only[List.all_toArray]using h) ?_;intro w2 r2 o2;refine af _ _ ?_;clear af K2;simp only[Act.put,Qa,Qb,Qc];have ah:S w2:=an.go hS (Qp (b1.mono av) o2 av);refine⟨ah,?_⟩;have b6:L.b1<=FB:=by omega
 clear o2 b1 r1 hS bb av b4 bj;refine wpAnyH_done (by kernel_rfl) ?_ _;have m2:=S0.out _ ah;have t2:=S1.out _ ah;have c2:=S2.out _ ah;have M2:=Lh (m2.drew1 HL.out);have T2:=Lh t2.drew1;have R2:=Lh r2.drew;have C2:=Lh c2.drew1;have c7:=M2.out.row.cellv (i:=7) (v:=sv) rfl;rw[a6]at c7;clear an S0 S1 S2 S7 ah m2 t2 c2 r2;clear S wd w1;go_wp2_with fail
 refine QJ 14 (by kernel_rfl) (by kernel_rfl) ?_;simp only[L0,LE,Lz,LA];generalize w2.drew=w3 at*;have ew:IntKind.i64.wrap (rs.length:Int)=(rs.length:Int):=IntWalk.i64_in _ (by omega);have bi:(rs.length:Int)<=(aj:Int):=by omega
 repeat still_step
 refine wpStill_nil ?_;clear ew c7 bi;refine Qm rfl 181 _ _ rfl L.M 7 rfl _ rfl [.slice (some ⟨SB,0,none⟩) rs.length aj] rfl 184 _ (L.cells s (.slice (some ⟨SB,0,none⟩) rs.length aj) ev) M2.out.row (by kernel_rfl) (by show 7+1<=14;omega) (by simp[Value.oneCell']) rfl ?_;intro w4 r4 o4;obtain⟨aa,ay⟩:∃aa,aa=Value.slice (some ⟨SB,0,none⟩) rs.length aj:=⟨_,rfl⟩;have m4:=M2.out.pop HL.out T2.out o4 r4;have bn:=Qx (M2.out.core.fr x (by simp)) o4 (λe=>by have:=QQ (M2.out.core.fr x (by simp)) e;have:=HL.out.lt;omega);have r5:=R2.out.only o4 (by have:=HL.out.lt;omega);have C4:=Lh (C2.out.trans (.only o4 (.inr (.inl rfl))));rw[<-ay]at m4;clear ay r4 o4 M2 T2 R2 C2 w3 b2 b3 a6 a0;obtain⟨S,ad⟩:∃S,S=(λw=>MR L s rs aa ev w/\Row w FB 187 x.cells.toArray/\w.ownsRow L.b1 3 1 x.v x.f.vals.length (Qi x.f.vals)/\Chg L W w):=⟨_,rfl⟩;have an:St S:=by rw[ad];exact⟨λh b=>⟨h.1.below HL.out b,h.2.1.below b h.2.1.lt,QB h.2.2.1 b,h.2.2.2.trans (.below (b.mono h.1.core.size))⟩⟩
 have S0:Hid (∀W,S W->MR L s rs aa ev W):=by show ∀W,_;rw[ad];exact λW h=>h.1
 have S1:Hid (∀W,S W->Row W FB 187 x.cells.toArray):=by show ∀W,_;rw[ad];exact λW h=>h.2.1
 have S2:Hid (∀w,S w->Chg L W w):=by show ∀W,_;rw[ad];exact λW h=>h.2.2.2
 have S3:Hid (∀w,S w->w.ownsRow L.b1 3 1 x.v x.f.vals.length (Qi x.f.vals)):=by show ∀W,_;rw[ad];exact λW h=>h.2.2.1
 have aq:S w4:=by rw[ad];exact⟨m4,r5,bn,C4.out⟩
 obtain⟨bd,a3,be⟩:=J6 (HL.out.pok _ m4.core.im).brd az.out.root
 have S6:Hid (∀w,S w->w.cell? ⟨L.M,2,none⟩=some (.slice (some bd) L.p.body.length L.p.bcap)/\∀(j:Nat) (u:Value),x.f.t.root.cells[j]? =some u->w.cell? ((bd.add (x.f.at_*2)).add j)=some u):=by
  show ∀w,_;intro w h;obtain⟨b8,ax,hc⟩:=J6 (HL.out.pok _ (S0.out w h).core.im).brd az.out.root;rw[a3]at ax;cases ax;exact⟨by rw[<-a3];exact(S0.out w h).row.cellv rfl,hc⟩
 clear ad m4 r5 bn C4;go_wp2_with fail
 refine wp_region_held (S:=S) (by kernel_rfl) ?_;simp only[Lk,Lc,Lo,Nat.reduceAdd,Li,Lj,Lp,Lm,Ll];show wpAnyH _ _ _ _ _ _ _ _ w4.drew;have hS:S w4.drew:=St.drew aq;clear aq a3 be;generalize w4.drew=wd at hS|-;(refine tkH 0 (.pointer (some ⟨L.M,0,none⟩)) rfl (Qd rfl (λW hW=>by(go_simp))) ?_;simp only[Act.put,Qa,Qb,Qc]);(refine tkH 1 (.pointer (some ⟨L.M,0,none⟩)) rfl (Qd rfl (λW hW=>by(go_simp))) ?_;simp only[Act.put,Qa,Qb,Qc]);(refine tkH 2 (.pointer (some ⟨L.M,0,none⟩)) rfl (Qd rfl (λW hW=>by(go_simp))) ?_;simp only[Act.put,Qa,Qb,Qc]);(refine tkH 3 (.pointer (some ⟨L.M,2,none⟩)) rfl (Qd rfl (λW hW=>by(go_simp))) ?_;simp only[Act.put,Qa,Qb,Qc]);(refine tkH 4 (.slice (some bd) L.p.body.length L.p.bcap) rfl (Qd rfl (λW hW=>by((have h:=(S6.out W hW).1;go_simp)))) ?_;simp only[Act.put,Qa,Qb,Qc]);(refine tkH 5 (.pointer (some ⟨FB,0,none⟩)) rfl (Qd rfl (λW hW=>by(go_simp))) ?_;simp only[Act.put,Qa,Qb,Qc]);(refine tkH 6 (.int .i64 (x.f.at_:Int)) rfl (Qd rfl (λW hW=>by((have h:=(S1.out W hW).cellv (i:=0) (v:=.int .i64 (x.f.at_:Int)) rfl;go_simp)))) ?_;simp only[Act.put,Qa,Qb,Qc]);(refine tkH 7 (.pointer (some (bd.add (x.f.at_*2)))) rfl (Qd rfl (λW hW=>by(go_simp;try omega))) ?_;simp only[Act.put,Qa,Qb,Qc])
 (refine tkH 8 _ rfl (JI rfl 65 _ rfl (bd.add (x.f.at_*2)) rfl x.f.t.root.cells _ (λw hw=>(S6.out w hw).2) Tryz.underlying65 rfl (by kernel_rfl)) ?_;simp only[Act.put,Qa,Qb,Qc]);(refine wpAnyH_all (rs:=[9]) (by kernel_rfl) (by simp) (λi hi=>?_);obtain rfl:i=9:=by simpa using hi);refine Qf rfl rfl (λK2 af=>?_);refine QD 65 rfl _ _ Vx rfl ?_;intro NB w1 ap r1 b1;refine af _ _ ?_;clear af K2;simp only[Act.put,Qa,Qb,Qc];refine⟨an.go hS (b1.mono ap),?_⟩;(refine wpAnyH_all (rs:=[10]) (by kernel_rfl) (by simp) (λi hi=>?_);obtain rfl:i=10:=by simpa using hi);refine Qf rfl rfl (λK2 af=>?_);refine Q6 65 (.tmp 3) (.tmp 39) rfl NB x.f.t.root.cells.toArray rfl rfl 65 _ r1 (by kernel_rfl) rfl (by simp[Nd.cells,Value.oneCell']) ?_;intro w2 r2 o2;refine af _ _ ?_;clear af K2;simp only[Act.put,Qa,Qb,Qc];have ah:S w2:=an.go hS (Qp (b1.mono ap) o2 ap);refine⟨ah,?_⟩;clear o2 b1 r1;refine wpAnyH_done (by kernel_rfl) ?_ _;have al:=r2.cellv (i:=0) (v:=.int .i64 x.f.t.root.tag) rfl;have ag:=r2.cellv (i:=1) (v:=.int .i64 x.f.t.root.n) rfl;have a9:=(S1.out _ ah).cellv (i:=0) (v:=.int .i64 (x.f.at_:Int)) rfl;have q:=(S1.out _ ah).cellv (i:=2) (v:=x.v) rfl;have l:=Lh (S0.out _ ah);have HX:=Lh (S3.out _ ah);have HC:=Lh (S2.out _ ah);have b7:L.b1<=NB:=Ld (S0.out _ hS).core.size ap;clear S0 S1 S2 S3 S6 an hS ah r2 ap;clear S wd w4;obtain⟨st,ae⟩:∃st,rs.map FrV.f=st:=⟨_,rfl⟩;obtain⟨f0,bg⟩:∃f0,x.f=f0:=⟨_,rfl⟩;obtain⟨tag,y⟩:∃tag,f0.t.root.tag=tag:=⟨_,rfl⟩;obtain⟨n,hn⟩:∃n,f0.t.root.n=n:=⟨_,rfl⟩;have hf:=Hf.out;clear Hf;rw[ae]at hf hv;rw[bg]at hf al ag HX a9 bc az;rw[y]at al;rw[hn]at ag;cases hf with
 |lit g r h=>
  rw[y]at h;rcases h with rfl|rfl
  ·go_wp2_with fail
   rw[<-hn]at*;refine Calls.mono (Js L HL.out s g r _ _ ⟨rs,aa,ev,ae,l.out⟩ (hv g (by simp))) ?_;rintro e W9 ⟨⟨u,rfl⟩,h9,g9⟩;have H9:=Lh h9;have G9:=Lh (HC.out.trans g9);clear h9 g9 l HX HC;go_wp2
   go_end0
   exact⟨⟨_,rfl⟩,H9.out,G9.out⟩
  ·go_wp2_with fail
   rw[<-hn]at*;refine Calls.mono (Js L HL.out s g r _ _ ⟨rs,aa,ev,ae,l.out⟩ (hv g (by simp))) ?_;rintro e W9 ⟨⟨u,rfl⟩,h9,g9⟩;have H9:=Lh h9;have G9:=Lh (HC.out.trans g9);clear h9 g9 l HX HC;go_wp2
   go_end0
   exact⟨⟨_,rfl⟩,H9.out,G9.out⟩
 |var g r v h hn0 hvv=>
  rw[y]at h;subst h;rw[hn]at hn0 hvv;obtain⟨k,rfl⟩:∃k:Nat,n=k:=⟨n.toNat,by omega⟩;rw[Ln]at hvv;have cb:k<s.vals.length:=(La.1 hvv).1;obtain⟨gv,bo,au,bf⟩:=YG l.out.core.vals (by omega);have ck:=bf k v hvv;have c4:=l.out.row.cellv (i:=4) (v:=L.vv) rfl;rw[au]at c4;have b0:(k:Int)<(s.vals.length:Int):=by omega
  clear bf au hvv;go_wp2_with fail
  refine QJ 9 (by kernel_rfl) (by kernel_rfl) ?_;simp only[L0,LE,Lz,LA];have d:∀a u,w2.cell? a=some u->w2.drew.cell? a=some u:=λ_ _ h=>h
  replace l:=Lh (l.out.drew1 HL.out);replace HC:=Lh HC.out.drew1;replace c4:=d _ _ c4;replace ck:=d _ _ ck;replace ag:=d _ _ ag;clear d;generalize w2.drew=w3 at*
  repeat still_step
  refine wpStill_nil ?_;go_wp2_with fail
  refine Calls.mono (Js L HL.out s g r _ _ ⟨rs,aa,ev,ae,l.out⟩ (hv g (by simp))) ?_;rintro e W9 ⟨⟨u,rfl⟩,h9,g9⟩;have H9:=Lh h9;have G9:=Lh (HC.out.trans g9);clear h9 g9 l HX HC;go_wp2
  go_end0
  exact⟨⟨_,rfl⟩,H9.out,G9.out⟩
 |atNo _ i vs h hn0 hl hvs hb=>
  rw[y]at h;subst h;rw[hn]at hn0 hl hb;obtain⟨k,rfl⟩:∃k:Nat,n=k:=⟨n.toNat,by omega⟩;rw[Ln]at hl;obtain⟨gx,ac,m,z,cv⟩:=UY HX.out hvs;rw[z]at q;go_wp2_with fail
  refine QJ 7 (by kernel_rfl) (by kernel_rfl) ?_;simp only[L0,LE,Lz,LA];have d:∀a u,w2.cell? a=some u->w2.drew.cell? a=some u:=λ_ _ h=>h
  replace l:=Lh (l.out.drew1 HL.out);replace HC:=Lh HC.out.drew1;replace q:=d _ _ q;replace cv:=d _ _ cv;replace ag:=d _ _ ag;clear d;generalize w2.drew=w3 at*
  repeat still_step
  refine wpStill_nil ?_;go_wp2_with fail
  refine Calls.mono (VD L HL.out ⟨s,_⟩ k i _ ⟨rs,aa,ev,ae,l.out⟩ Hs.out hl hb) ?_;rintro e W9 ⟨rfl,h9,g9⟩;have H9:=Lh h9;have G9:=Lh (HC.out.trans (.only g9 (.inr (.inl rfl))));clear h9 g9 l HX HC hb q cv ag;go_wp2
  go_end0
  exact⟨⟨_,rfl⟩,H9.out,G9.out⟩
 |at_ g r i v vs h hn0 hl hvs hb hx=>
  rw[y]at h;subst h;rw[hn]at hn0 hl hb hx;obtain⟨k,rfl⟩:∃k:Nat,n=k:=⟨n.toNat,by omega⟩;rw[Ln]at hl;obtain⟨j,rfl⟩:∃j:Nat,i=j:=⟨i.toNat,by omega⟩;rw[Ln]at hx;obtain⟨gx,ac,m,z,cv⟩:=UY HX.out hvs;rw[z]at q;obtain⟨gI,ar⟩:∃gI,L.ab[k]? =some gI:=⟨_,Lb (by rw[HL.out.alen, <-Hs.out.alen];exact hl)⟩;have ao:=l.out.core.arrs k gI _ ar (Lb hl);have aw:s.arr (k:Int)=s.arrs[k]:=by unfold Ms.arr;rw[Ln,Lb hl];rfl
  rw[<-aw]at ao;have cI:=ao.cellv (i:=j) (v:=.int .i64 v) (by simp[Qi,hx]);go_wp2_with fail
  refine QJ 7 (by kernel_rfl) (by kernel_rfl) ?_;simp only[L0,LE,Lz,LA];have d:∀a u,w2.cell? a=some u->w2.drew.cell? a=some u:=λ_ _ h=>h
  replace l:=Lh (l.out.drew1 HL.out);replace HC:=Lh HC.out.drew1;replace q:=d _ _ q;replace cv:=d _ _ cv;replace ag:=d _ _ ag;replace cI:=d _ _ cI;clear ao;clear d;generalize w2.drew=w3 at*
  repeat still_step
  refine wpStill_nil ?_;go_wp2_with fail
  refine Calls.mono (Abu L HL.out ⟨s,g::r⟩ k j gI _ ⟨rs,aa,ev,ae,l.out⟩ Hs.out ar (by show j<(s.arr (k:Int)).length;omega)) ?_;rintro e W9 ⟨rfl,rfl⟩;go_wp2_with fail
  refine Calls.mono (Js L HL.out s g r _ _ ⟨rs,aa,ev,ae,l.out⟩ (hv g (by simp))) ?_;rintro e W9 ⟨⟨u,rfl⟩,h9,g9⟩;have H9:=Lh h9;have G9:=Lh (HC.out.trans g9);clear h9 g9 l HX HC;go_wp2
  go_end0
  exact⟨⟨_,rfl⟩,H9.out,G9.out⟩
 |neg g r v vs h hvs=>
  rw[y]at h;subst h;obtain⟨gx,ac,m,z,cv⟩:=UY HX.out hvs;rw[z]at q;go_wp2_with fail
  refine Calls.mono (Js L HL.out s g r _ _ ⟨rs,aa,ev,ae,l.out⟩ (hv g (by simp))) ?_;rintro e W9 ⟨⟨u,rfl⟩,h9,g9⟩;have H9:=Lh h9;have G9:=Lh (HC.out.trans g9);clear h9 g9 l HX HC;go_wp2
  go_end0
  exact⟨⟨_,rfl⟩,H9.out,G9.out⟩
 |not g r v vs h hvs h01=>
  rw[y]at h;subst h;obtain⟨gx,ac,m,z,cv⟩:=UY HX.out hvs;rw[z]at q;rcases h01 with rfl|rfl
  ·go_wp2_with fail
   refine Calls.mono (Js L HL.out s g r _ _ ⟨rs,aa,ev,ae,l.out⟩ (hv g (by simp))) ?_;rintro e W9 ⟨⟨u,rfl⟩,h9,g9⟩;have H9:=Lh h9;have G9:=Lh (HC.out.trans g9);clear h9 g9 l HX HC;go_wp2
   go_end0
   exact⟨⟨_,rfl⟩,H9.out,G9.out⟩
  ·go_wp2_with fail
   refine Calls.mono (Js L HL.out s g r _ _ ⟨rs,aa,ev,ae,l.out⟩ (hv g (by simp))) ?_;rintro e W9 ⟨⟨u,rfl⟩,h9,g9⟩;have H9:=Lh h9;have G9:=Lh (HC.out.trans g9);clear h9 g9 l HX HC;go_wp2
   go_end0
   exact⟨⟨_,rfl⟩,H9.out,G9.out⟩
 |logic g r v vs h hvs=>
  rw[y]at h;obtain⟨gx,ac,z,cv⟩:=AlW HX.out hvs;rw[z]at q;have ce:vs.length<=1001:=by rw[bg,hvs]at hv0;simp at hv0;omega
  have ew:IntKind.i64.wrap (vs.length:Int)=(vs.length:Int):=IntWalk.i64_in _ (by omega);rcases h with rfl|rfl
  ·go_wp2_with fail
   refine Calls.mono (Js L HL.out s g r _ _ ⟨rs,aa,ev,ae,l.out⟩ (hv g (by simp))) ?_;rintro e W9 ⟨⟨u,rfl⟩,h9,g9⟩;have H9:=Lh h9;have G9:=Lh (HC.out.trans g9);clear h9 g9 l HX HC;go_wp2
   go_end0
   exact⟨⟨_,rfl⟩,H9.out,G9.out⟩
  ·go_wp2_with fail
   refine Calls.mono (Js L HL.out s g r _ _ ⟨rs,aa,ev,ae,l.out⟩ (hv g (by simp))) ?_;rintro e W9 ⟨⟨u,rfl⟩,h9,g9⟩;have H9:=Lh h9;have G9:=Lh (HC.out.trans g9);clear h9 g9 l HX HC;go_wp2
   go_end0
   exact⟨⟨_,rfl⟩,H9.out,G9.out⟩
 |set _ v vs h hn0 hl hvs=>
  rw[y]at h;subst h;rw[hn]at hn0 hl;obtain⟨k,rfl⟩:∃k:Nat,n=k:=⟨n.toNat,by omega⟩;rw[Ln]at hl;obtain⟨gx,ac,m,z,cv⟩:=UY HX.out hvs;rw[z]at q;obtain⟨gv,bo,au,_⟩:=YG l.out.core.vals (by omega);have c4:=l.out.row.cellv (i:=4) (v:=L.vv) rfl;rw[au]at c4;have b0:(k:Int)<(s.vals.length:Int):=by omega
  go_wp2_with fail
  refine QJ 14 (by kernel_rfl) (by kernel_rfl) ?_;simp only[L0,LE,Lz,LA];have d:∀a u,w2.cell? a=some u->w2.drew.cell? a=some u:=λ_ _ h=>h
  replace l:=Lh (l.out.drew1 HL.out);replace HC:=Lh HC.out.drew1;replace c4:=d _ _ c4;replace q:=d _ _ q;replace cv:=d _ _ cv;replace ag:=d _ _ ag;clear d;generalize w2.drew=w3 at*
  repeat still_step
  refine wpStill_nil ?_;go_wp2_with fail
  obtain⟨g',b5,ba,bm,bk,bh,ak⟩:=l.out.setVal HL.out k v hl;rw[au]at bm;cases bm;refine Calls.mono (Abt L HL.out _ (s.setv (k:Int) v) rs aa ev gv k ba (k:Int) (-1) v _ bk bh ak rfl rfl rfl rfl rfl a8.out rfl) ?_;rintro e W9 ⟨⟨u,rfl⟩,⟨a7,a1,h9⟩,g9⟩;have H9:=Lh h9;have G9:=Lh (HC.out.trans g9);clear h9 g9 l HX HC ak bk bh hl;go_wp2
  go_end0
  exact⟨⟨_,rfl⟩,⟨rs,a7,a1,ae,by rw[hn];exact H9.out⟩,G9.out⟩
 |while1 _ vs h hvs=>
  rw[y]at h;subst h;obtain⟨gx,ac,m,z,cv⟩:=UY HX.out hvs;rw[z]at q;go_wp2_with fail
  refine Calls.mono (Uj L HL.out ⟨s,_⟩ f0.at_ f0.t _ ⟨rs,aa,ev,ae,l.out⟩) ?_;rintro e W9 ⟨⟨u,rfl⟩,h9,g9⟩;have H9:=Lh h9;have G9:=Lh (HC.out.trans g9);clear h9 g9 l HX HC;go_wp2
  go_end0
  exact⟨⟨_,rfl⟩,H9.out,G9.out⟩
 |while0 _ v vs h hvs h1=>
  rw[y]at h;subst h;obtain⟨gx,ac,m,z,cv⟩:=UY HX.out hvs;rw[z]at q;have e1:(v==1)=false:=by simpa using h1
  clear h1 HX;go_wp2
  go_end0
  exact⟨⟨_,rfl⟩,⟨rs,aa,ev,ae,l.out⟩,HC.out⟩
 |ret _ v vs h hvs=>
  rw[y]at h;subst h;obtain⟨gx,ac,m,z,cv⟩:=UY HX.out hvs;rw[z]at q;go_wp2_with fail
  refine Calls.mono (XU L HL.out ⟨s,_⟩ 0 v _ ⟨rs,aa,ev,ae,l.out⟩) ?_;rintro e W9 ⟨⟨u,rfl⟩,h9,g9⟩;have H9:=Lh h9;have G9:=Lh (HC.out.trans g9);clear h9 g9 l HX HC;go_wp2
  go_end0
  exact⟨⟨_,rfl⟩,H9.out,G9.out⟩
 |nothing _ h=>
  rw[y]at h;clear HX;rcases h with rfl|rfl|rfl
  all_goals
   go_wp2
   go_end0
   exact⟨⟨_,rfl⟩,⟨rs,aa,ev,ae,l.out⟩,HC.out⟩
 |pairNo _ a b vs h hvs hp=>
  rw[y]at h hp;have e1:(tag==1)=false:=by simp;omega
  have e2:(tag==2)=false:=by simp;omega
  have e3:(tag==3)=false:=by simp;omega
  have e4:(tag==4)=false:=by simp;omega
  have e5:(tag==5)=false:=by simp;omega
  have e6:(tag==6)=false:=by simp;omega
  have bq:(tag==18)=false:=by simp;omega
  have br:(tag==19)=false:=by simp;omega
  have bs:(tag==20)=false:=by simp;omega
  have bt:(tag==21)=false:=by simp;omega
  have bu:(tag==22)=false:=by simp;omega
  have bv:(tag==23)=false:=by simp;omega
  have bw:(tag==24)=false:=by simp;omega
  have bx:(tag==25)=false:=by simp;omega
  have bz:(tag==26)=false:=by simp;omega
  obtain⟨gx,ac,m,z,am,cv,ai⟩:=Agj HX.out hvs;rw[z]at q;have a5:(1:Int)<(m:Int)+1:=by omega
  clear am;go_wp2_with fail
  refine QJ 11 (by kernel_rfl) (by kernel_rfl) ?_;simp only[L0,LE,Lz,LA];have d:∀a u,w2.cell? a=some u->w2.drew.cell? a=some u:=λ_ _ h=>h
  replace l:=Lh (l.out.drew1 HL.out);replace HC:=Lh HC.out.drew1;replace al:=d _ _ al;replace q:=d _ _ q;replace cv:=d _ _ cv;replace ai:=d _ _ ai;clear d;generalize w2.drew=w3 at*
  repeat still_step
  refine wpStill_nil ?_;go_wp2_with fail
  refine Calls.mono (AdF L HL.out ⟨s,_⟩ tag a b _ ⟨rs,aa,ev,ae,l.out⟩ hp) ?_;rintro e W9 ⟨⟨u,rfl⟩,h9,g9⟩;have H9:=Lh h9;have G9:=Lh (HC.out.trans g9);clear h9 g9 l HX HC;go_wp2
  go_end0
  exact⟨⟨_,rfl⟩,H9.out,G9.out⟩
 |pair g r a b c vs h hvs hp=>
  rw[y]at h hp;have e1:(tag==1)=false:=by simp;omega
  have e2:(tag==2)=false:=by simp;omega
  have e3:(tag==3)=false:=by simp;omega
  have e4:(tag==4)=false:=by simp;omega
  have e5:(tag==5)=false:=by simp;omega
  have e6:(tag==6)=false:=by simp;omega
  have bq:(tag==18)=false:=by simp;omega
  have br:(tag==19)=false:=by simp;omega
  have bs:(tag==20)=false:=by simp;omega
  have bt:(tag==21)=false:=by simp;omega
  have bu:(tag==22)=false:=by simp;omega
  have bv:(tag==23)=false:=by simp;omega
  have bw:(tag==24)=false:=by simp;omega
  have bx:(tag==25)=false:=by simp;omega
  have bz:(tag==26)=false:=by simp;omega
  obtain⟨gx,ac,m,z,am,cv,ai⟩:=Agj HX.out hvs;rw[z]at q;have a5:(1:Int)<(m:Int)+1:=by omega
  clear am;go_wp2_with fail
  refine QJ 11 (by kernel_rfl) (by kernel_rfl) ?_;simp only[L0,LE,Lz,LA];have d:∀a u,w2.cell? a=some u->w2.drew.cell? a=some u:=λ_ _ h=>h
  replace l:=Lh (l.out.drew1 HL.out);replace HC:=Lh HC.out.drew1;replace al:=d _ _ al;replace q:=d _ _ q;replace cv:=d _ _ cv;replace ai:=d _ _ ai;clear d;generalize w2.drew=w3 at*
  repeat still_step
  refine wpStill_nil ?_;go_wp2_with fail
  refine Calls.mono (AgZ L HL.out s g r tag a b c _ ⟨rs,aa,ev,ae,l.out⟩ (hv g (by simp)) h hp) ?_;rintro e W9 ⟨⟨u,rfl⟩,h9,g9⟩;have H9:=Lh h9;have G9:=Lh (HC.out.trans g9);clear h9 g9 l HX HC;go_wp2
  go_end0
  exact⟨⟨_,rfl⟩,H9.out,G9.out⟩
 |putNo _ i v vs h hn0 hl hvs hb=>
  rw[y]at h;subst h;rw[hn]at hn0 hl hb;obtain⟨k,rfl⟩:∃k:Nat,n=k:=⟨n.toNat,by omega⟩;rw[Ln]at hl;obtain⟨gx,ac,m,z,am,cv,ai⟩:=Agj HX.out hvs;have ca:L.b1<=gx:=QQ HX.out (by rw[z];rfl);rw[z]at q;have a5:(1:Int)<(m:Int)+1:=by omega
  clear am;have cc:=HL.out.lt;go_wp2_with fail
  obtain⟨S,ad⟩:∃S,S=(λ(w:World)=>w.cell? ⟨NB,1,none⟩=some (.int .i64 (k:Int))/\w.cell? ⟨FB,2,none⟩=some (.slice (some ⟨gx,0,none⟩) (m+1) ac)/\w.cell? ⟨gx,0,none⟩=some (.int .i64 i)/\w.cell? ⟨gx,1,none⟩=some (.int .i64 v)):=⟨_,rfl⟩;have S0:Hid (∀W,S W->W.cell? ⟨NB,1,none⟩=some (.int .i64 (k:Int))):=by show ∀W,_;rw[ad];exact λW h=>h.1
  have S1:Hid (∀W,S W->W.cell? ⟨FB,2,none⟩=some (.slice (some ⟨gx,0,none⟩) (m+1) ac)):=by show ∀W,_;rw[ad];exact λW h=>h.2.1
  have S2:Hid (∀W,S W->W.cell? ⟨gx,0,none⟩=some (.int .i64 i)):=by show ∀W,_;rw[ad];exact λW h=>h.2.2.1
  have S3:Hid (∀W,S W->W.cell? ⟨gx,1,none⟩=some (.int .i64 v)):=by show ∀W,_;rw[ad];exact λW h=>h.2.2.2
  have So:Hid (∀w w',S w->Only L.M w w'->S w'):=by
   show ∀w w',_;rw[ad];exact λw w' h o=>⟨YT o h.1 (by show NB≠L.M;omega),YT o h.2.1 (by show FB≠L.M;omega),YT o h.2.2.1 (by show gx≠L.M;omega),YT o h.2.2.2 (by show gx≠L.M;omega)⟩
  have hS:S w2.drew:=by rw[ad];exact⟨ag,q,cv,ai⟩
  clear ad ag q cv ai al a9;replace l:=Lh (l.out.drew1 HL.out);replace HC:=Lh HC.out.drew1;clear HX;refine wp_region_held (S:=S) (by kernel_rfl) ?_;simp only[Lk,Lc,Lo,Nat.reduceAdd,Li,Lj,Lp,Lm,Ll];show wpAnyH _ _ _ _ _ _ _ _ w2.drew;generalize w2.drew=wd at hS l HC|-;(refine tkH 0 (.pointer (some ⟨L.M,0,none⟩)) rfl (Qd rfl (λW hW=>by(go_simp))) ?_;simp only[Act.put,Qa,Qb,Qc]);(refine tkH 1 (.pointer (some ⟨L.M,0,none⟩)) rfl (Qd rfl (λW hW=>by(go_simp))) ?_;simp only[Act.put,Qa,Qb,Qc]);(refine tkH 2 (.pointer (some ⟨NB,1,none⟩)) rfl (Qd rfl (λW hW=>by(go_simp))) ?_;simp only[Act.put,Qa,Qb,Qc]);(refine tkH 3 (.int .i64 (k:Int)) rfl (Qd rfl (λW hW=>by((have h:=S0.out W hW;go_simp)))) ?_;simp only[Act.put,Qa,Qb,Qc]);(refine tkH 4 (.pointer (some ⟨FB,2,none⟩)) rfl (Qd rfl (λW hW=>by(go_simp))) ?_;simp only[Act.put,Qa,Qb,Qc]);(refine tkH 5 (.slice (some ⟨gx,0,none⟩) (m+1) ac) rfl (Qd rfl (λW hW=>by((have h:=S1.out W hW;go_simp)))) ?_;simp only[Act.put,Qa,Qb,Qc]);(refine tkH 6 (.pointer (some ⟨gx,0,none⟩)) rfl (Qd rfl (λW hW=>by(go_simp))) ?_;simp only[Act.put,Qa,Qb,Qc]);(refine tkH 7 (.int .i64 i) rfl (Qd rfl (λW hW=>by((have h:=S2.out W hW;go_simp)))) ?_;simp only[Act.put,Qa,Qb,Qc]);(refine tkH 9 (.pointer (some ⟨NB,1,none⟩)) rfl (Qd rfl (λW hW=>by(go_simp))) ?_;simp only[Act.put,Qa,Qb,Qc]);(refine tkH 10 (.int .i64 (k:Int)) rfl (Qd rfl (λW hW=>by((have h:=S0.out W hW;go_simp)))) ?_;simp only[Act.put,Qa,Qb,Qc]);(refine tkH 11 (.pointer (some ⟨FB,2,none⟩)) rfl (Qd rfl (λW hW=>by(go_simp))) ?_;simp only[Act.put,Qa,Qb,Qc]);(refine tkH 12 (.slice (some ⟨gx,0,none⟩) (m+1) ac) rfl (Qd rfl (λW hW=>by((have h:=S1.out W hW;go_simp)))) ?_;simp only[Act.put,Qa,Qb,Qc]);(refine tkH 13 (.pointer (some ⟨gx,0,none⟩)) rfl (Qd rfl (λW hW=>by(go_simp))) ?_;simp only[Act.put,Qa,Qb,Qc]);(refine tkH 14 (.int .i64 i) rfl (Qd rfl (λW hW=>by((have h:=S2.out W hW;go_simp)))) ?_;simp only[Act.put,Qa,Qb,Qc]);(refine tkH 15 (.pointer (some ⟨FB,2,none⟩)) rfl (Qd rfl (λW hW=>by(go_simp))) ?_;simp only[Act.put,Qa,Qb,Qc]);(refine tkH 16 (.slice (some ⟨gx,0,none⟩) (m+1) ac) rfl (Qd rfl (λW hW=>by((have h:=S1.out W hW;go_simp)))) ?_;simp only[Act.put,Qa,Qb,Qc]);(refine tkH 17 (.pointer (some ⟨gx,1,none⟩)) rfl (Qd rfl (λW hW=>by(go_simp))) ?_;simp only[Act.put,Qa,Qb,Qc]);(refine tkH 18 (.int .i64 v) rfl (Qd rfl (λW hW=>by((have h:=S3.out W hW;go_simp)))) ?_;simp only[Act.put,Qa,Qb,Qc]);(refine wpAnyH_all (rs:=[8]) (by kernel_rfl) (by simp) (λi hi=>?_);obtain rfl:i=8:=by simpa using hi);refine Qf rfl rfl (λK2 af=>?_);refine Qo 146 #[.pointer (some ⟨L.M,0,none⟩),.int .i64 (k:Int),.int .i64 i] (w1:=wd) (by go_simp;try rfl) (Calls.mono (VD L HL.out ⟨s,_⟩ k i _ ⟨rs,aa,ev,ae,l.out⟩ Hs.out hl hb) ?_)
  rintro e W9 ⟨rfl,h9,g9⟩;refine⟨_,rfl,af _ _ ?_⟩;clear af K2;simp only[Act.put,Qa,Qb,Qc];have a2:=So.out _ _ hS g9;refine⟨a2,?_⟩;(refine wpAnyH_all (rs:=[19]) (by kernel_rfl) (by simp) (λi hi=>?_);obtain rfl:i=19:=by simpa using hi);refine Qf rfl rfl (λK2 af=>?_);refine Qo 147 #[.pointer (some ⟨L.M,0,none⟩),.pointer none,.int .i64 (k:Int),.int .i64 i,.int .i64 v] (w1:=W9) (by go_simp;try rfl) (Calls.mono (AdE L.M k i v _) ?_)
  rintro e W8 ⟨⟨u,rfl⟩,rfl⟩;refine⟨_,rfl,af _ _ ?_⟩;clear af K2;simp only[Act.put,Qa,Qb,Qc];refine⟨a2,?_⟩;refine wpAnyH_done (by kernel_rfl) ?_ _;have H9:=Lh h9;have G9:=Lh (HC.out.trans (.only g9 (.inr (.inl rfl))));clear h9 g9 l hb hS a2 S0 S1 S2 S3 So;go_wp2
  go_end0
  exact⟨⟨_,rfl⟩,H9.out,G9.out⟩
 |put _ i v vs h hn0 hl hvs hb=>
  rw[y]at h;subst h;rw[hn]at hn0 hl hb;obtain⟨k,rfl⟩:∃k:Nat,n=k:=⟨n.toNat,by omega⟩;rw[Ln]at hl;obtain⟨j,rfl⟩:∃j:Nat,i=j:=⟨i.toNat,by omega⟩;obtain⟨gx,ac,m,z,am,cv,ai⟩:=Agj HX.out hvs;rw[z]at q;have a5:(1:Int)<(m:Int)+1:=by omega
  clear am;obtain⟨gI,ar⟩:∃gI,L.ab[k]? =some gI:=⟨_,Lb (by rw[HL.out.alen, <-Hs.out.alen];exact hl)⟩;have bl:=λ(w:World) (hw:MR L s rs aa ev w)=>(Abu L HL.out ⟨s,_⟩ k j gI w ⟨rs,aa,ev,ae,hw⟩ Hs.out ar (by show j<(s.arr (k:Int)).length;omega)).mono (λe w' h=>(⟨h.1,h.2.symm⟩:_/\w'=w));have bp:=Lh bl;clear bl;go_wp2_with fail
  refine QJ 19 (by kernel_rfl) (by kernel_rfl) ?_;simp only[L0,LE,Lz,LA];have d:∀a u,w2.cell? a=some u->w2.drew.cell? a=some u:=λ_ _ h=>h
  replace l:=Lh (l.out.drew1 HL.out);replace HC:=Lh HC.out.drew1;replace ag:=d _ _ ag;replace q:=d _ _ q;replace cv:=d _ _ cv;replace ai:=d _ _ ai;clear d;generalize w2.drew=w3 at*
  repeat(first|still_step|still_call (bp.out _ l.out))
  refine wpStill_nil ?_;go_wp2_with fail
  obtain⟨ao,ak⟩:=l.out.setArr HL.out k j v _ gI ar (Lb hl);have aw:s.arr (k:Int)=s.arrs[k]:=by unfold Ms.arr;rw[Ln,Lb hl];rfl
  refine Calls.mono (Abt L HL.out _ (s.seta (k:Int) (j:Int) v) rs aa ev gI j _ (k:Int) (j:Int) v _ ao (by rw[<-aw];simp[Qi];omega) ak rfl (by simp only[Ms.seta,aw];rfl) rfl rfl rfl a8.out rfl) ?_;rintro e W9 ⟨⟨u,rfl⟩,⟨a7,a1,h9⟩,g9⟩;have H9:=Lh h9;have G9:=Lh (HC.out.trans g9);clear h9 g9 l HX HC ak ao;go_wp2
  go_end0
  exact⟨⟨_,rfl⟩,⟨rs,a7,a1,ae,by rw[hn];exact H9.out⟩,G9.out⟩
end Go.Proofs.YtkoikjnlpifbjaaGreat
