/- Lemmas for RunnerKillsP. -/
import Derived.Test.YtkoikjnlpifbjaaGreatZk1
import Derived.Test.YtkoikjnlpifbjaaGreatZk26
import Derived.Test.YtkoikjnlpifbjaaGreatZk24
import Derived.Test.YtkoikjnlpifbjaaGreatZk6
import Derived.WalkMore
set_option linter.unusedVariables false
set_option linter.unusedSimpArgs false
set_option maxRecDepth 100000
set_option maxHeartbeats 16000000
namespace Go.Proofs.YtkoikjnlpifbjaaGreat
open Go.RowKit Go.Deep
theorem Afz{w:World}{b:Nat}{v:Value}{l vs:List Int}{a:Int}(h:w.ownsRow b 3 1 v l.length (Qi l))(hl:l=a::vs):∃vd n cap c,v=.slice (some vd) (n+1) cap/\w.cell? vd=some (.int .i64 c)/\c=a:=by
 obtain⟨g,cap,m,d,e⟩:=UY h hl;exact⟨_,m,cap,a,d,e,rfl⟩
theorem AgY (L:Lay)(hL:LOk L)(s:Ms)(x:FrV)(rs:List FrV)(sv ev:Value)(SB cap:Nat)(cur:Array Value)(W:World)(hm:MR L s (x::rs) sv ev W)(ht:Top L W x rs sv SB cap cur)(hf:FOk L.p.body x.f)(i q:Nat)(hi:NextK x.f i)(hq:(Q1 (x.f.at_+1) x.f.t.kids)[i]? =some q):
 Calls Tryz.prog 112 #[.pointer (some ⟨L.M,0,none⟩),.pointer (some ⟨SB,rs.length*3,none⟩)] W λe W'=>∃n,e=.returned (.tuple #[.int .i64 (q:Int),.bool true])/\W'=W.drewN n:=by
 have few:=hf.few;have z:=hf.kid;obtain⟨kd,h⟩:=AlU hL hm ht hf.hat (by omega);have hx:=hm.core.fr x (by simp);rcases hi.how with⟨m,l,v,vs,u,k,o⟩|⟨rfl,hn,ha⟩
 ·obtain⟨y,n,c,w,d,j,rfl⟩:=Afz hx u;exact AdC L SB _ _ _ _ _ kd _ _ i q w y n c W h hq m l d j k o
 ·refine Ae8 L SB _ _ _ _ _ kd _ _ q W h hi.lt hq hn (λl g=>?_);obtain⟨v,vs,u,hs⟩:=ha l g;obtain⟨y,n,c,w,d,j,rfl⟩:=Afz hx u;exact⟨y,n,c,w,d,j,hs⟩
theorem Aiq (L:Lay)(hL:LOk L)(s:Ms)(x:FrV)(rs:List FrV)(sv ev:Value)(SB cap:Nat)(cur:Array Value)(W:World)(hm:MR L s (x::rs) sv ev W)(ht:Top L W x rs sv SB cap cur)(hf:FOk L.p.body x.f)(hi:NextNo x.f):
 Calls Tryz.prog 112 #[.pointer (some ⟨L.M,0,none⟩),.pointer (some ⟨SB,rs.length*3,none⟩)] W λe W'=>∃n,e=.returned (.tuple #[.int .i64 0,.bool false])/\W'=W.drewN n:=by
 have few:=hf.few;have i:=hf.kid;obtain⟨q,h⟩:=AlU hL hm ht hf.hat (by omega);have o:=hm.core.fr x (by simp);refine AdD L SB _ _ _ _ _ q _ _ W h ?_;rcases hi.how with⟨d,v,w,m,l⟩|⟨d,k⟩
 ·obtain⟨u,n,c,t,g,j,rfl⟩:=Afz o m;exact .inl ⟨d,u,n,c,t,g,j,l⟩
 ·exact .inr ⟨d,k⟩
theorem MR.more{L:Lay}{s:Ms}{x:FrV}{rs:List FrV}{sv ev:Value}{W W':World}{SB cap:Nat}{cur:Array Value}(h:MR L s (x::rs) sv ev W)(hL:LOk L)(ht:Top L W x rs sv SB cap cur)(o:Only SB W W')(hr:Row W' SB 187 (ZS cur (rs.length*3+1) [.int .i64 ((x.f.kid+1:Nat):Int)])):MR L s (⟨x.f.more,x.v⟩::rs) sv ev W':=by
 have c:=ht.lo;have i:=ht.put (x':=⟨x.f.more,x.v⟩) (j:=1) (u:=.int .i64 ((x.f.kid+1:Nat):Int)) (by decide) rfl hr;have d:SB≠L.M:=by have:=hL.lt;omega
 have k:=h.core.onlyStack hL o ht.row c;refine⟨h.row.only o (λe=>d e.symm),i.own,⟨k.evs,k.vals,k.arrs,λy g=>?_,?_,k.im,k.size,k.sum,by have:=k.few;simpa using this⟩⟩
 ·rcases Ls.1 g with rfl|g
  ·exact k.fr x (by simp)
  ·exact k.fr y (by simp[g])
 ·exact Ni.2 ⟨(Ni.1 k.dist).1,(Ni.1 k.dist).2⟩
def Kn (V args:List Int):List Int:=(List.range V.length).map λi=>args.getD i 0
def En (V:List Int):List (List Int):=V.map λt=>List.replicate (QC t).toNat 0
def Zk (V args:List Int)(F:Nat):Ms:=⟨Kn V args,En V,F,0,[],none⟩
structure LNew (B:Nat)(L:Lay):Prop where
 m:B<=L.M
 b1:B<=L.b1
 vv:∀g,L.vv.ownBlock=some g->B<=g
 ab:∀g∈L.ab,B<=g
theorem Chg.new{L:Lay}{B:Nat}{W W':World}(h:Chg L W W')(n:LNew B L):Below B W W':=
 ⟨h.os,h.tape,h.output,h.size,λk hk=>h.block k (by have:=n.b1;omega) (by have:=n.m;omega) (λe=>by have:=n.vv k e;omega) (λe=>by have:=n.ab k e;omega)⟩
structure LoadR (p:PgV)(args:List Int)(F:Nat)(w w':World)(e:Ending):Prop where
 ex:∃L:Lay,e=.returned (.pointer (some ⟨L.M,0,none⟩))/\L.p=p/\L.F=F/\LOk L/\MRx L ⟨Zk p.V args F,[]⟩ w'/\Below w.heap.size w w'/\LNew w.heap.size L
theorem LenS.init (V args:List Int)(F:Nat):LenS V (Zk V args F):=by
 refine⟨by simp[Zk,Kn],by simp[Zk,En],λi t a d c=>?_⟩;simp only[Zk,En,L4,d,Nq,Nc]at c;subst c;rw[Nm];unfold QC;split<;>omega
def RP (L:Lay)(fin:Mm)(W:World)(n:Nat):Prop:=∃m,SOk L.p.body m.stack/\LenS L.p.V m.s/\MRx L m W/\ReachN n m fin
theorem Kd{w:World}:(zeroValue 114).run Tryz.prog w=.ok (.agg #[.int .i64 0,.int .i64 0,.int .i64 0,.slice none 0 0]) w:=by kernel_rfl
theorem Vp{L:Lay}{s:Ms}{fs:List FrV}{sv ev:Value}{W:World}(h:MR L s fs sv ev W)(j:Nat)(v:Value)(hj:([.int .i64 (s.out.getD (0,0)).1,.int .i64 (s.out.getD (0,0)).2,.int .i64 (s.steps:Int),ev]:List Value)[j]? =some v):W.cell? ((⟨L.M,8,none⟩:Addr).add j)=some v:=by
 match j,hj with
 |0,hj=>injection hj with hj;subst hj;exact h.row.cellv (i:=8) rfl
 |1,hj=>injection hj with hj;subst hj;exact h.row.cellv (i:=9) rfl
 |2,hj=>injection hj with hj;subst hj;exact h.row.cellv (i:=10) rfl
 |3,hj=>injection hj with hj;subst hj;exact h.row.cellv (i:=11) rfl
 |j+4,hj=>cases hj
theorem XE (a b c:Int){ev:Value}(h:ev.oneCell'=true):(#[.int .i64 a,.int .i64 b,.int .i64 c,ev]:Array Value).all (·.oneCell')=true:=by
 have:([.int .i64 a,.int .i64 b,.int .i64 c,ev]:List Value).all (·.oneCell')=true:=by
  rw[List.all_eq_true];intro u d;simp only[Ls,Lw,or_false]at d;rcases d with rfl|rfl|rfl|rfl
  ·rfl
  ·rfl
  ·rfl
  ·exact h
 simpa only[List.all_toArray]using this
structure RunR (fin:Mm)(w w':World)(e:Ending):Prop where
 ex:∃ev,e=.returned (.tuple #[.agg #[.int .i64 (fin.s.out.getD (0,0)).1,.int .i64 (fin.s.out.getD (0,0)).2,.int .i64 (fin.s.steps:Int),ev],.int .i64 0])/\w'.ownsRow w.heap.size 263 3 ev fin.s.evs.length (fin.s.evs.flatMap EvV.cells)/\Below w.heap.size w w'
theorem Air (p:PgV)(t:Tr)(aa:Option Addr)(acap:Nat)(args:List Int)(fuel:Int)(fin:Mm)(w:World)(hbl:p.body.length<=1000)(hn:args.length<=1000)(hok:p.ok w)(hg:Good p t)
 (hc:Q7 p args.length fuel=0)
 (hld:∀w',p.ok w'->Below w.heap.size w w'->Calls Tryz.prog 109 #[.agg p.cells,.slice aa args.length acap,.int .i64 fuel] w' λe w''=>LoadR p args fuel.toNat w' w'' e)
 (hfin:Reach (Z2 0 t ⟨Zk p.V args fuel.toNat,[]⟩) fin) (ho:fin.s.out.isSome=true):
 Calls Tryz.prog 72 #[.agg p.cells,.slice aa args.length acap,.int .i64 fuel] w λe w'=>RunR fin w w' e:=by
 have a5:=Lh hok;have Hg:=Lh hg;have bg:=Lh hbl;have Hn:=Lh hn;have a4:=Lh hld;have aw:=Lh hfin;have Ho:=Lh ho;have Hc:=Lh hc;clear hok hg hbl hn hld hfin ho hc;go_enter Tryz.func72,Tryz.ntmps72
 go_wp2_with (refine Qq _ _ rfl ?_)
 refine Stop.to ?_;refine Qe rfl 25 _ rfl p.cells rfl ?_;intro G w1 hG r1 b1;replace b1:=(Below.refl w.heap.size w).trans (b1.mono hG);clear hG;go_wp2_with (refine QH _ rfl ?_)
 refine Stop.to ?_;refine Qj rfl 114 rfl _ _ Kd rfl ?_;intro RB w2 av rB b2;replace r1:=r1.below (b2.mono av) r1.lt;have al:w.heap.size<=RB:=Ld b1.size av;replace b2:=b1.trans ((b2.mono av).mono b1.size);have R1:=Lh r1;have a0:=Lh rB;have B2:=Lh b2;clear r1 b1 b2 rB av w1;go_wp2_with fail
 refine wp_scope_straight ?_;go_wp2_with (refine wpList_load_row rfl 25 _ rfl G rfl 25 p.cells (0,0) _ R1.out Tryz.underlying25 rfl (by kernel_rfl) ?_)
 refine(Yi p aa acap args.length fuel bg.out Hn.out w2 (a5.out.go B2.out)).mono ?_;rintro e w3 ⟨rfl,b3⟩;rw[Hc.out];have R3:=Lh (R1.out.below b3 R1.out.lt);have aq:=Lh (a0.out.below b3 a0.out.lt);have B3:=Lh (B2.out.trans (b3.mono B2.out.size));clear b3 R1 a0 B2;go_wp2_with (refine wpList_load_row rfl 25 _ rfl G rfl 25 p.cells (0,0) _ R3.out Tryz.underlying25 rfl (by kernel_rfl) ?_)
 refine(a4.out w3 (a5.out.go B3.out) B3.out).mono ?_;rintro e w4 ⟨L,rfl,bj,bn,hL,d,b4,ay⟩;subst bj;have HL:=Lh hL;have z:=Lh d;have h:=Lh ay;have a6:=Lh (aq.out.below b4 aq.out.lt);have B4:=Lh (B3.out.trans (b4.mono B3.out.size));have ac:=aq.out.lt;have af:=B3.out.size;clear b4 aq B3 R3 hL d ay a4;go_wp2_with fail
 refine Calls.mono (show Calls Tryz.prog 111 #[.pointer (some ⟨L.M,0,none⟩),.int .i64 0] w4 _ from Uj L HL.out ⟨Zk L.p.V args fuel.toNat,[]⟩ 0 t w4 z.out) ?_;rintro e w5 ⟨⟨u,rfl⟩,h5,g5⟩;obtain⟨n0,bb⟩:=aw.out.count;have be:RP L fin w5 n0:=⟨_,(SOk.nil _).enter (λg hg=>by simp at hg) Hg.out.hat,(LenS.init _ _ _).enter,h5,bb⟩;have a8:=Lh be;have a2:=g5.new h.out;have a7:=Lh (a6.out.below a2 ac);have B5:=Lh (B4.out.trans (a2.mono af));clear h5 g5 bb be a2 a6 B4 z aw;go_wp2_with fail
 refine wp_label ?_;go_wp2_with fail
 go_loopw [11,12,13] (λ_ _ _ W=>Hid (∃n,RP L fin W n)/\Hid (Row W RB 114 #[.int .i64 0,.int .i64 0,.int .i64 0,.slice none 0 0])/\Hid (Below w.heap.size w W)) (λ_ _ _ W=>Ab4 (RP L fin W))
 case atStart=>exact⟨Lh ⟨n0,a8.out⟩,a7,B5⟩
 case round=>
  obtain⟨bd,c,Br⟩:=hrel;obtain⟨⟨m,bf,lens,am,bc⟩,ax⟩:=YE bd.out;clear a8 a7 B5 bd;obtain⟨fs,sv,ev,ad,d⟩:=am;have ab:=d.row.cellv (i:=12) (v:=.bool m.s.out.isSome) rfl;have c7:=d.row.cellv (i:=7) (v:=sv) rfl;have z:=Lh d;generalize hN:Ab4 (RP L fin wr)=N at bc ax;have HN:=Lh hN;clear hN;cases bc with
  |refl=>
   rw[Ho.out]at ab;have ae:=Jj d.core.evs;have ai:=Lh ae;clear ae
   go_wp2_with (first
    | (refine QT rfl 114 _ rfl ⟨L.M,8,none⟩ rfl [.int .i64 (fin.s.out.getD (0,0)).1,.int .i64 (fin.s.out.getD (0,0)).2,.int .i64 (fin.s.steps:Int),ev] _ (Vp z.out) Tryz.underlying114 rfl (by kernel_rfl) ?_)
    | (refine Qk rfl 114 _ _ rfl RB #[.int .i64 (fin.s.out.getD (0,0)).1,.int .i64 (fin.s.out.getD (0,0)).2,.int .i64 (fin.s.steps:Int),ev] rfl rfl 114 _ c.out (by kernel_rfl) rfl (XE _ _ _ ai.out) ?_;intro W9 r9 o9))
   rw[Exit.noGoto_ret];refine bodyPost_ret (QZ Tryz.results72 _ _ RB 114 _ (0,0) _ rfl r9 Tryz.underlying114 rfl (by kernel_rfl)) rfl ?_;exact⟨ev,rfl,QR (Qx d.core.evs o9 (Qz d.core.evs c.out (by decide))) (Ld af h.out.b1),Qp Br.out o9 al⟩
  |step n _ m' _ ho hst hr=>
   rw[ho]at ab;replace ab:wr.cell? ⟨L.M,12,none⟩=some (.bool false):=ab;have y:=Lh bf;have aj:=Lh lens;clear ax bf lens;cases hst with
   |done s=>
    obtain rfl:fs=[]:=by simpa using ad
    cases hr with
    |step n _ m' _ ho2 hst2 hr2=>cases ho2
    |refl=>
     have an:=d.stack;clear d ad;rcases an.2 with⟨ao,_⟩|⟨g,ar,au,ao,_⟩
     ·rw[ao]at c7;clear ao an;go_wp2_with fail
      refine Calls.mono (XU L HL.out ⟨s,[]⟩ 3 0 wr ⟨[],sv,ev,rfl,z.out⟩) ?_;rintro e W7 ⟨⟨u7,rfl⟩,⟨bi,bl,ag,a9,d⟩,g7⟩;have g8:=g7.new h.out;replace c:=Lh (c.out.below g8 ac);replace Br:=Lh (Br.out.trans (g8.mono af));clear z g7 g8 c7 ab;have z:=Lh d;have ae:=Jj d.core.evs;have ai:=Lh ae;clear ae
      go_wp2_with (first
       | (refine QT rfl 114 _ rfl ⟨L.M,8,none⟩ rfl [.int .i64 ((s.stop 3 0).out.getD (0,0)).1,.int .i64 ((s.stop 3 0).out.getD (0,0)).2,.int .i64 ((s.stop 3 0).steps:Int),ag] _ (Vp z.out) Tryz.underlying114 rfl (by kernel_rfl) ?_)
       | (refine Qk rfl 114 _ _ rfl RB #[.int .i64 ((s.stop 3 0).out.getD (0,0)).1,.int .i64 ((s.stop 3 0).out.getD (0,0)).2,.int .i64 ((s.stop 3 0).steps:Int),ag] rfl rfl 114 _ c.out (by kernel_rfl) rfl (XE _ _ _ ai.out) ?_;intro W9 r9 o9))
      rw[Exit.noGoto_ret];refine bodyPost_ret (QZ Tryz.results72 _ _ RB 114 _ (0,0) _ rfl r9 Tryz.underlying114 rfl (by kernel_rfl)) rfl ?_;exact⟨ag,rfl,QR (Qx d.core.evs o9 (Qz d.core.evs c.out (by decide))) (Ld af h.out.b1),Qp Br.out o9 al⟩
     ·rw[ao]at c7;clear ao an;go_wp2_with fail
      refine Calls.mono (XU L HL.out ⟨s,[]⟩ 3 0 wr ⟨[],sv,ev,rfl,z.out⟩) ?_;rintro e W7 ⟨⟨u7,rfl⟩,⟨bi,bl,ag,a9,d⟩,g7⟩;have g8:=g7.new h.out;replace c:=Lh (c.out.below g8 ac);replace Br:=Lh (Br.out.trans (g8.mono af));clear z g7 g8 c7 ab;have z:=Lh d;have ae:=Jj d.core.evs;have ai:=Lh ae;clear ae
      go_wp2_with (first
       | (refine QT rfl 114 _ rfl ⟨L.M,8,none⟩ rfl [.int .i64 ((s.stop 3 0).out.getD (0,0)).1,.int .i64 ((s.stop 3 0).out.getD (0,0)).2,.int .i64 ((s.stop 3 0).steps:Int),ag] _ (Vp z.out) Tryz.underlying114 rfl (by kernel_rfl) ?_)
       | (refine Qk rfl 114 _ _ rfl RB #[.int .i64 ((s.stop 3 0).out.getD (0,0)).1,.int .i64 ((s.stop 3 0).out.getD (0,0)).2,.int .i64 ((s.stop 3 0).steps:Int),ag] rfl rfl 114 _ c.out (by kernel_rfl) rfl (XE _ _ _ ai.out) ?_;intro W9 r9 o9))
      rw[Exit.noGoto_ret];refine bodyPost_ret (QZ Tryz.results72 _ _ RB 114 _ (0,0) _ rfl r9 Tryz.underlying114 rfl (by kernel_rfl)) rfl ?_;exact⟨ag,rfl,QR (Qx d.core.evs o9 (Qz d.core.evs c.out (by decide))) (Ld af h.out.b1),Qp Br.out o9 al⟩
   |kid s f r i q k hi hq hk=>
    obtain⟨x,j,rfl⟩:∃x j,fs=x::j:=by cases fs with
     |nil=>simp at ad
     |cons x j=>exact⟨x,j,rfl⟩
    simp only[LP,N5]at ad;obtain⟨rfl,rfl⟩:=ad;obtain⟨SB,ar,au,ht⟩:=Acu d.stack;have Ht:=Lh ht;rw[ht.sve]at c7;have bk:j.length<=20001:=by have h1:=d.few1;have h2:=d.core.sum;have h3:=HL.out.F;dsimp only at*;omega
    have a3:=ht.le;have am:=ht.max;have e0:(((j.length:Nat):Int)+1==0)=false:=by simp;omega
    have ew:IntKind.i64.wrap (j.length:Int)=(j.length:Int):=IntWalk.i64_in _ (by omega);clear d ht;go_wp2_with fail
    go_quiet (fail)
    have hd:Below wr.heap.size wr (wr.drewN nq):=⟨rfl,rfl,rfl,Nat.le_refl _,λ_ _=>rfl⟩;go_wp2_with fail
    refine(AgY L HL.out s x j sv ev SB ar au _ (z.out.drew HL.out nq) (Ht.out.below hd) (y.out.top _ _ rfl) i q hi hq).mono ?_;rintro e W2 ⟨nd,rfl,rfl⟩;have l:Below wr.heap.size wr ((wr.drewN nq).drewN nd):=⟨rfl,rfl,rfl,Nat.le_refl _,λ_ _=>rfl⟩;have ah:=z.out.below HL.out l;have o:=Ht.out.below l;replace c:=Lh (c.out.below l c.out.lt);replace Br:=Lh (Br.out.trans (l.mono Br.out.size));clear hd l z Ht c7 ab a3 am e0 ew;generalize (wr.drewN nq).drewN nd=W2 at ah o c Br|-;have bo:=(y.out.top _ _ rfl).few;have bm:=(y.out.top _ _ rfl).kid;have c1:=o.cell 1 _ rfl;have bh:IntKind.i64.wrap ((x.f.kid:Int)+1)=(x.f.kid:Int)+1:=IntWalk.i64_in _ (by omega);go_wp2_with (refine Qs _ _ _ rfl ?_)
    refine Stop.to ?_;refine Qm rfl 3 _ _ rfl SB (j.length*3+1) rfl _ rfl [.int .i64 ((x.f.kid:Int)+1)] rfl 187 _ _ o.row (by kernel_rfl) (by have:=o.hi;simp;omega) (by simp[Value.oneCell']) rfl ?_;intro W3 r3 o3;have ba:=ah.more HL.out o o3 r3;have g3:Chg L W2 W3:=.only o3 (.inl o.lo);have ap:=(Step.kid s x.f _ i q k hi hq hk).ok y.out aj.out;have ak:=Lh ap;have az:=Lh ba;have G3:=Lh g3;clear c1 bh r3 o3 ah o ba g3 ap hi hq hk;go_wp2_with fail
    refine Calls.mono (Uj L HL.out ⟨s,x.f.more::j.map FrV.f⟩ q k W3 ⟨⟨x.f.more,x.v⟩::j,sv,ev,rfl,az.out⟩) ?_;rintro e W4 ⟨⟨u4,rfl⟩,h4,g4⟩;have g5:=(G3.out.trans g4).new h.out;have rp:RP L fin W4 n:=⟨_,ak.out.1,ak.out.2,h4,hr⟩;have Rp:=Lh rp;have a1:=Lh (c.out.below g5 ac);have B7:=Lh (Br.out.trans (g5.mono af));clear g5 g4 h4 rp;go_wp2_with fail
    go_roundw
    case rel=>exact⟨Lh ⟨n,Rp.out⟩,a1,B7⟩
    case measure=>
     have h2:=(YE ⟨n,Rp.out⟩).2 n Rp.out;omega
   |fin s f r _ hno hf=>
    obtain⟨x,j,rfl⟩:∃x j,fs=x::j:=by cases fs with
     |nil=>simp at ad
     |cons x j=>exact⟨x,j,rfl⟩
    simp only[LP,N5]at ad;obtain⟨rfl,rfl⟩:=ad;obtain⟨SB,ar,au,ht⟩:=Acu d.stack;have Ht:=Lh ht;rw[ht.sve]at c7;have bk:j.length<=20001:=by have h1:=d.few1;have h2:=d.core.sum;have h3:=HL.out.F;dsimp only at*;omega
    have a3:=ht.le;have am:=ht.max;have e0:(((j.length:Nat):Int)+1==0)=false:=by simp;omega
    have ew:IntKind.i64.wrap (j.length:Int)=(j.length:Int):=IntWalk.i64_in _ (by omega);clear d ht;go_wp2_with fail
    go_quiet (fail)
    have hd:Below wr.heap.size wr (wr.drewN nq):=⟨rfl,rfl,rfl,Nat.le_refl _,λ_ _=>rfl⟩;go_wp2_with fail
    refine(Aiq L HL.out s x j sv ev SB ar au _ (z.out.drew HL.out nq) (Ht.out.below hd) (y.out.top _ _ rfl) hno).mono ?_;rintro e W2 ⟨nd,rfl,rfl⟩;have l:Below wr.heap.size wr ((wr.drewN nq).drewN nd):=⟨rfl,rfl,rfl,Nat.le_refl _,λ_ _=>rfl⟩;have ah:=z.out.below HL.out l;have o:=Ht.out.below l;replace c:=Lh (c.out.below l c.out.lt);replace Br:=Lh (Br.out.trans (l.mono Br.out.size));clear hd l z Ht c7 ab a3 am e0 ew;generalize (wr.drewN nq).drewN nd=W2 at ah o c Br|-;have ap:=(Step.fin s x.f _ m' hno hf).ok y.out aj.out;have ak:=Lh ap;have az:=Lh ah;have Hf:=Lh hf;clear ah o ap hno hf;go_wp2_with fail
    refine Calls.mono (AdB L HL.out s x.f (j.map FrV.f) m' W2 ⟨x::j,sv,ev,rfl,az.out⟩ aj.out (y.out.top _ _ rfl).hat Hf.out (λg hg=>by have:=((y.out.rest _ _ rfl g hg).1).few.2;omega) (by have:=(y.out.top _ _ rfl).few.2;omega)) ?_;rintro e W4 ⟨⟨u4,rfl⟩,h4,g4⟩;have g5:=g4.new h.out;have rp:RP L fin W4 n:=⟨_,ak.out.1,ak.out.2,h4,hr⟩;have Rp:=Lh rp;have a1:=Lh (c.out.below g5 ac);have B7:=Lh (Br.out.trans (g5.mono af));clear g5 g4 h4 rp;go_wp2_with fail
    go_roundw
    case rel=>exact⟨Lh ⟨n,Rp.out⟩,a1,B7⟩
    case measure=>
     have h2:=(YE ⟨n,Rp.out⟩).2 n Rp.out;omega
structure PS (w W:World)(M:Nat)(es:List (Int×Value)):Prop where
 below:Below w.heap.size w W
 lo:w.heap.size<=M
 map:MapB W M es
theorem Vw{ops:Array Oper}{rest:List Oper}{o:Oper}{a:Act}{w W:World}{Q:Exit->Act->World->Prop}{M:Nat}{es:List (Int×Value)}(hgd:o.guard=none)(m x y:Operand)(ho:o.op=.insert 182 m x y\/o.op=.mapUpdate 182 m x y)(hm:a.eval m=.map (some M))(k:Int)(v:Value)(hx:a.eval x=.int .i64 k)(hy:a.eval y=v)(hs:PS w W M es)(hn:JK k es=none)
 (h:∀W',PS w W' M (es++[(k,v)])->wpList Tryz.prog ops Q rest (a.put o.dst undef) W'):wpList Tryz.prog ops Q (o::rest) a W:=
 XH hgd m x y ho Tryz.underlying182 Tryz.underlying3 hs.map hm k v hx hy hn λW' h4 o4=>h W' ⟨Qp hs.below o4 hs.lo,hs.lo,h4⟩
theorem Aha (w:World):Calls Tryz.prog 144 #[] w λe w'=>∃M,e=.returned (.map (some M))/\PS w w' M Xm:=by
 have d:∀w:World,(Instr.makeMap 182 none).run Tryz.prog w=.ok (.map (some w.heap.size)) (w.alloc (.map #[] 0)):=λ_=>by kernel_rfl
 go_enter Tryz.func144,Tryz.ntmps144
 have h:PS w (w.alloc (.map #[] 0)) w.heap.size []:=⟨(Below.refl _ _).alloc (Nat.le_refl _) _,Nat.le_refl _,MapB.new w⟩;go_wp2_with (refine Vw rfl _ _ _ (.inl rfl) rfl _ _ rfl rfl (by assumption) (by first|rfl|decide) ?_;intro g c)
 go_ret
 exact⟨_,rfl,c⟩
end Go.Proofs.YtkoikjnlpifbjaaGreat
