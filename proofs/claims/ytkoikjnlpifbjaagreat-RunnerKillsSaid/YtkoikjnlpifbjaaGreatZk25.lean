/- Lemmas for RunnerKillsP. -/
import Derived.Test.YtkoikjnlpifbjaaGreatZk24
import Derived.Test.YtkoikjnlpifbjaaGreatZk3
import Derived.Test.YtkoikjnlpifbjaaGreatZk1
set_option linter.unusedVariables false
set_option linter.unusedSimpArgs false
set_option maxRecDepth 100000
set_option maxHeartbeats 16000000
namespace Go.Proofs.YtkoikjnlpifbjaaGreat
open Go.RowKit Go.Deep
theorem VD (L:Lay)(hL:LOk L)(m:Mm)(n:Nat)(i:Int)(W:World)(h:MRx L m W)(hs:LenS L.p.V m.s)(hn:n<m.s.arrs.length)(hb:i<0\/((m.s.arr (n:Int)).length:Int)<=i):Calls Tryz.prog 146 #[.pointer (some ⟨L.M,0,none⟩),.int .i64 (n:Int),.int .i64 i] W λe W'=>e=.returned (.pointer none)/\MRx L ⟨m.s.stop 2 0,m.stack⟩ W'/\Only L.M W W':=by
 obtain⟨fs,sv,ev,o,w⟩:=h;have q:=EY L hL m 2 0 W ⟨fs,sv,ev,o,w⟩;obtain⟨g,hg⟩:∃g,L.ab[n]? =some g:=⟨_,Lb (by rw[hL.alen, <-hs.alen];exact hn)⟩;obtain⟨ad,t,l,ht,hc⟩:=hL.arrs W w.core.im n g hg;have z:=hs.arr_len (n:=(n:Int)) (t:=t) (by rw[Ln];exact ht);have c:(m.s.arr (n:Int)).length=(QC t).toNat:=by omega
 rw[c]at hb;have af:(n:Int)<(L.ab.length:Int):=by have:=(La.1 hg).1;omega
 have c5:=w.row.cellv (i:=5) (v:=.slice L.aa L.ab.length L.acap) rfl;rw[l]at c5;have d:=Lh q;clear q w hL hs hg ht z c hn o l;by_cases h0:i<0
 ·clear hb;go_enter Tryz.func146,Tryz.ntmps146
  go_wp2_with fail
  refine d.out.mono ?_;rintro e W2 ⟨⟨u,rfl⟩,k,j⟩;have x:=Lh j;have y:=Lh k;clear k j;go_wp2
  go_ret
  exact⟨rfl,y.out,x.out⟩
 ·have ac:0<=i:=by omega
  have ae:((QC t).toNat:Int)<=i:=by omega
  clear hb h0;generalize (QC t).toNat=sz at*;go_enter Tryz.func146,Tryz.ntmps146
  go_wp2_with fail
  refine d.out.mono ?_;rintro e W2 ⟨⟨u,rfl⟩,k,j⟩;have x:=Lh j;have y:=Lh k;clear k j;go_wp2
  go_ret
  exact⟨rfl,y.out,x.out⟩
theorem Abu (L:Lay)(hL:LOk L)(m:Mm)(n i:Nat)(g:Nat)(W:World)(h:MRx L m W)(hs:LenS L.p.V m.s)(hg:L.ab[n]? =some g)(hb:i<(m.s.arr (n:Int)).length):Calls Tryz.prog 146 #[.pointer (some ⟨L.M,0,none⟩),.int .i64 (n:Int),.int .i64 (i:Int)] W λe W'=>e=.returned (.pointer (some ⟨g,i,none⟩))/\W=W':=by
 obtain⟨y,sv,ev,k,l⟩:=h;obtain⟨x,t,d,o,z⟩:=hL.arrs W l.core.im n g hg;have j:=hs.arr_len (n:=(n:Int)) (t:=t) (by rw[Ln];exact o);have c:(m.s.arr (n:Int)).length=(QC t).toNat:=by omega
 rw[c]at hb;have w:(n:Int)<(L.ab.length:Int):=by have:=(La.1 hg).1;omega
 have q:=l.row.cellv (i:=5) (v:=.slice L.aa L.ab.length L.acap) rfl;rw[d]at q;clear l hL hs hg o j c k d;generalize (QC t).toNat=sz at*;have u:(i:Int)<(sz:Int):=by omega
 clear hb;go_enter Tryz.func146,Tryz.ntmps146
 go_wp2
 go_ret
 exact⟨rfl,rfl⟩
theorem AdE (M:Nat)(v at_ x:Int)(W:World):Calls Tryz.prog 147 #[.pointer (some ⟨M,0,none⟩),.pointer none,.int .i64 v,.int .i64 at_,.int .i64 x] W λe W'=>(∃u,e=.returned u)/\W=W':=by
 go_enter Tryz.func147,Tryz.ntmps147
 go_wp2
 go_end0
 exact⟨⟨_,rfl⟩,rfl⟩
theorem Ab2:(Tryz.prog.info? 263).map (λi=>(i.zero,i.size,i.bytes))=some (some (.agg #[.int .i64 0,.int .i64 0,.int .i64 0]),3,24):=by kernel_rfl
theorem Yc (e:EvV):∀u∈e.cells,u.oneCell'=true:=by
 intro u c;simp only[EvV.cells,Ls,Lw,or_false]at c;rcases c with rfl|rfl|rfl<;>rfl
theorem Ad2 (cur:Array Value)(k:Nat)(u:Value)(hk:k<cur.size):ZS cur k [u]=cur.setIfInBounds k u:=by
 unfold ZS;apply Array.toList_inj.1;simp only[Nf,Array.toList_setIfInBounds];rw[List.set_eq_take_append_cons_drop,if_pos (by simpa using hk)];simp
theorem Abt (L:Lay)(hL:LOk L)(s1 s2:Ms)(fs:List FrV)(sv ev:Value)(g k:Nat)(cur:Array Value)(v at_ x:Int)(W:World)(hg:Row W g 3 cur)(hk:k<cur.size)
 (hst:∀W1,Only g W W1->Row W1 g 3 (cur.setIfInBounds k (.int .i64 x))->MR L s1 fs sv ev W1/\Chg L W W1)
 (h1:s2.vals=s1.vals) (h2:s2.arrs=s1.arrs) (h3:s2.steps=s1.steps) (h4:s2.fuel=s1.fuel) (h5:s2.evs=s1.evs++[⟨v,at_,x⟩]) (h6:s1.evs.length+fs.length<s1.steps) (h7:s2.out=s1.out):
 Calls Tryz.prog 147 #[.pointer (some ⟨L.M,0,none⟩),.pointer (some ⟨g,k,none⟩),.int .i64 v,.int .i64 at_,.int .i64 x] W λe W'=>(∃u,e=.returned u)/\(∃sv ev,MR L s2 fs sv ev W')/\Chg L W W':=by
 obtain⟨i0,ad,ae,af,ag⟩:=info_parts Ab2;have n:=Lh hst;have q:=Lh hL;have Hg:=Lh hg;have l:=Lh (Ad2 cur k (.int .i64 x) hk);have H1:=Lh h1;have H2:=Lh h2;have t:=Lh h3;have H4:=Lh h4;have H5:=Lh h5;have H7:=Lh h7;have hF:=hL.F;clear hst hL hg h1 h2 h3 h4 h5 h7;go_enter Tryz.func147,Tryz.ntmps147
 go_wp2_with (refine Qs _ _ _ rfl ?_)
 refine Stop.to ?_;refine Qm rfl 3 _ _ rfl g k rfl _ rfl [.int .i64 x] rfl 3 _ _ Hg.out (by kernel_rfl) (by simp;omega) (by simp[Value.oneCell']) l.out ?_;intro W1 r1 o1;obtain⟨d,g1⟩:=n.out W1 o1 r1;have m:=Lh d;have G1:=Lh g1;have aa:=d.row.cellv (i:=11) (v:=ev) rfl;have p:=d.core.sum;have ac:=d.core.size;have ah:s1.evs.length<=20001:=by omega
 have ha:=d.core.evs.alloc (.cells (EvV.cells ⟨v,at_,x⟩).toArray 263);have w:=Lh ha;clear d g1 r1 o1 ha p n Hg l hk;go_wp2_with (at_builtin;refine wpList_append_own_at _ rfl (.tmp 20) (.tmp 25) 112 rfl L.b1 263 i0 _ 3 24 Tryz.underlying112 ad ae af ag rfl (by decide) ev s1.evs.length (s1.evs.flatMap EvV.cells) rfl w.out ⟨W1.heap.size,0,none⟩ 1 1 (EvV.cells ⟨v,at_,x⟩) rfl rfl (Z9 _ _ _) (Yc _) (by unfold maxLen;omega) (by omega) (by simp;omega) ?_)
 intro h W3 j hg _ ab;have z:Below W1.heap.size W1 (W1.alloc (.cells (EvV.cells ⟨v,at_,x⟩).toArray 263)):=(Below.refl _ _).alloc (Nat.le_refl _) _;have c:=m.out.below q.out z;have k3:=c.core.grownEvs (s':=s2) q.out hg (by rw[H5.out];simpa using j) H1.out H2.out t.out H4.out (by rw[H5.out,t.out];simp;omega);have r3:=c.row.grown hg (Qz c.core.evs c.row (by decide));have s3:=ZB c.stack hg (ZP c.stack c.core.evs (by decide));have g3:=(G1.out.trans (Chg.below (L:=L) (z.mono ac))).trans (.grown hg (by simp;omega) (λk e=>QQ w.out e));have o:=Jj j;have K3:=Lh k3;have R3:=Lh r3;have y:=Lh s3;have G3:=Lh g3;clear j hg ab z c k3 r3 s3 g3 w m G1 aa;go_wp2_with (refine Qs _ _ _ rfl ?_)
 refine Stop.to ?_;refine Qm rfl 112 _ _ rfl L.M 11 rfl _ rfl [h] (by cases h<;>first|rfl|cases o) 184 _ (L.cells s2 sv h) R3.out (by kernel_rfl) (by show 11+1<=14;omega) (by simpa using o) (by unfold Lay.cells;rw[t.out,H7.out];rfl) ?_
 intro W4 r4 s;have m4:MR L s2 fs sv h W4:=⟨r4,Qx y.out s (λe=>by have:=QQ y.out e;have:=q.out.lt;omega),K3.out.only q.out s⟩;have M4:=Lh m4;have G4:=Lh (G3.out.trans (.only s (.inr (.inl rfl))));clear m4 r4 s K3 R3 y G3;go_wp2
 go_end0
 exact⟨⟨_,rfl⟩,⟨sv,h,M4.out⟩,G4.out⟩
structure TopF (L:Lay)(W:World)(M SB o:Nat)(q:Nat)(kid:Nat)(fv:Value)(tag:Int)(kd:Addr)(nk:Nat)(pos:List Nat):Prop where
 c3:∃ka,L.ka=some ka/\W.cell? ⟨L.M,3,none⟩=some (.slice (some ka) L.p.body.length L.kcap)/\∃A cap,W.cell? (ka.add q)=some (.slice A nk cap)/\(0<nk->A=some kd)
 c2:∃bd,W.cell? ⟨L.M,2,none⟩=some (.slice (some bd) L.p.body.length L.p.bcap)/\W.cell? (bd.add (q*2))=some (.int .i64 tag)
 a0:W.cell? ⟨SB,o,none⟩=some (.int .i64 (q:Int))
 a1:W.cell? ⟨SB,o+1,none⟩=some (.int .i64 (kid:Int))
 a2:W.cell? ⟨SB,o+2,none⟩=some fv
 ql:(q:Int)<(L.p.body.length:Int)
 kl:(kid:Int)<1000000
 pl:pos.length=nk
 pc:∀(i k:Nat),pos[i]? =some k->W.cell? (kd.add i)=some (.int .i64 (k:Int))
theorem AlU{L:Lay}(hL:LOk L){s:Ms}{x:FrV}{r:List FrV}{sv ev:Value}{W:World}{SB cap:Nat}{cur:Array Value}(hm:MR L s (x::r) sv ev W)(ht:Top L W x r sv SB cap cur)(hat:At L.p.body x.f.at_ x.f.t)(hk:x.f.kid<1000000):
 ∃kd,TopF L W L.M SB (r.length*3) x.f.at_ x.f.kid x.v x.f.t.root.tag kd x.f.t.kids.length (Q1 (x.f.at_+1) x.f.t.kids):=by
 obtain⟨ka,A,kcap,e,u,g⟩:=hL.kids W hm.core.im x.f.at_ x.f.t hat;obtain⟨j,m,n⟩:=J6 (hL.pok W hm.core.im).brd hat.root;have d:=n 0 (.int .i64 x.f.t.root.tag) rfl;rw[show(j.add (x.f.at_*2)).add 0=j.add (x.f.at_*2) by rw[Xf];simp]at d;have y:W.cell? ⟨L.M,3,none⟩=some (.slice L.ka L.p.body.length L.kcap):=hm.row.cellv rfl;have w:W.cell? ⟨L.M,2,none⟩=some (.slice L.p.ba L.p.body.length L.p.bcap):=hm.row.cellv rfl;rw[e]at y;rw[m]at w;have h:(Q1 (x.f.at_+1) x.f.t.kids).length=x.f.t.kids.length:=Ju _ _;refine⟨A.getD ⟨0,0,none⟩,⟨ka,e,y,A,kcap,u,λh0=>?_⟩,⟨j,w,d⟩,by have:=ht.cell 0 _ rfl;simpa using this,ht.cell 1 _ rfl,ht.cell 2 _ rfl,by have:=hat.lt;omega,by omega,h,λi k o=>?_⟩
 ·obtain⟨k,q⟩:∃k,(Q1 (x.f.at_+1) x.f.t.kids)[0]? =some k:=⟨_,Lb (by omega)⟩;obtain⟨z,c,_⟩:=Zg (l:=KX (Q1 (x.f.at_+1) x.f.t.kids)) g (k:=0) (x:=(k:Int)) (by simp[KX,q]);rw[c];rfl
 ·obtain⟨z,c,hc⟩:=Zg (l:=KX (Q1 (x.f.at_+1) x.f.t.kids)) g (k:=i) (x:=(k:Int)) (by simp[KX,o]);rw[c];exact hc
theorem Ae8 (L:Lay)(SB o q kid:Nat)(fv:Value)(tag:Int)(kd:Addr)(nk:Nat)(pos:List Nat)(k:Nat)(W:World)(h:TopF L W L.M SB o q kid fv tag kd nk pos)(hkid:kid<nk)(hk:pos[kid]? =some k)
 (h1:¬(tag=23/\1<=kid)) (h2:kid=1->asks tag->∃vd n cap v,fv=.slice (some vd) (n+1) cap/\W.cell? vd=some (.int .i64 v)/\¬UU tag v):
 Calls Tryz.prog 112 #[.pointer (some ⟨L.M,0,none⟩),.pointer (some ⟨SB,o,none⟩)] W λe W'=>∃n,e=.returned (.tuple #[.int .i64 (k:Int),.bool true])/\W'=W.drewN n:=by
 obtain⟨⟨ka,s,c3,A,w,ck,t⟩,⟨bd,c2,ct⟩,a0,a1,a2,ql,kl,pl,x⟩:=h;obtain rfl:=t (by omega);have y:=x kid k hk;have ad:(kid:Int)<(nk:Int):=by omega
 clear x hk s pl t;by_cases d:kid=1
 ·by_cases c:asks tag
  ·obtain⟨vd,n,cap,v,rfl,cv,u⟩:=h2 d c;have i:(tag=18/\v≠0)\/(tag=19/\v≠1)\/(tag=24/\v≠0):=by unfold asks at c;unfold UU at u;omega
   have m:((kid:Int)==1)=true:=by simp;omega
   clear h1 h2 c u hkid d;rcases i with⟨rfl,j⟩|⟨rfl,j⟩|⟨rfl,j⟩
   ·have ev:(v==0)=false:=by simpa using j
    clear j;go_enter Tryz.func112,Tryz.ntmps112
    go_wp2_with fail
    go_quiet (fail)
    go_wp2_with fail
    go_quiet (fail)
    go_wp2
    go_ret2
    exact⟨_,rfl,rfl⟩
   ·have ev:(v==1)=false:=by simpa using j
    clear j;go_enter Tryz.func112,Tryz.ntmps112
    go_wp2_with fail
    go_quiet (fail)
    go_wp2_with fail
    go_quiet (fail)
    go_wp2
    go_ret2
    exact⟨_,rfl,rfl⟩
   ·have ev:(v==0)=false:=by simpa using j
    clear j;go_enter Tryz.func112,Tryz.ntmps112
    go_wp2_with fail
    go_quiet (fail)
    go_wp2_with fail
    go_quiet (fail)
    go_wp2
    go_ret2
    exact⟨_,rfl,rfl⟩
  ·have g:tag≠18/\tag≠19/\tag≠24/\tag≠23:=by unfold asks at c;omega
   have z:(tag==18)=false:=by simpa using g.1
   have aa:(tag==19)=false:=by simpa using g.2.1
   have ab:(tag==24)=false:=by simpa using g.2.2.1
   have p:(tag==23)=false:=by simpa using g.2.2.2
   have m:((kid:Int)==1)=true:=by simp;omega
   clear h1 h2 c g hkid d;go_enter Tryz.func112,Tryz.ntmps112
   go_wp2_with fail
   go_quiet (fail)
   go_wp2_with fail
   go_quiet (fail)
   go_wp2
   go_ret2
   exact⟨_,rfl,rfl⟩
 ·have m:((kid:Int)==1)=false:=by simp;omega
  by_cases l:tag=23
  ·have eg:decide ((1:Int)<(kid:Int))=false:=by simp;omega
   have ac:¬((1:Int)<(kid:Int)):=by omega
   subst l;clear h1 h2 d hkid;go_enter Tryz.func112,Tryz.ntmps112
   go_wp2_with fail
   go_quiet (fail)
   go_wp2_with fail
   go_quiet (fail)
   go_wp2
   go_ret2
   exact⟨_,rfl,rfl⟩
  ·have p:(tag==23)=false:=by simpa using l
   clear h1 h2 d l hkid;go_enter Tryz.func112,Tryz.ntmps112
   go_wp2_with fail
   go_quiet (fail)
   go_wp2_with fail
   go_quiet (fail)
   go_wp2
   go_ret2
   exact⟨_,rfl,rfl⟩
theorem AdC (L:Lay)(SB o q kid:Nat)(fv:Value)(tag:Int)(kd:Addr)(nk:Nat)(pos:List Nat)(i k:Nat)(v:Int)(vd:Addr)(n cap:Nat)(W:World)(h:TopF L W L.M SB o q kid fv tag kd nk pos)(hk:pos[i]? =some k)
 (ht:tag=23) (h1:kid=1) (hf:fv=.slice (some vd) (n+1) cap) (cv:W.cell? vd=some (.int .i64 v)) (hv:v=0\/v=1) (hi:(i:Int)=2-v):
 Calls Tryz.prog 112 #[.pointer (some ⟨L.M,0,none⟩),.pointer (some ⟨SB,o,none⟩)] W λe W'=>∃n,e=.returned (.tuple #[.int .i64 (k:Int),.bool true])/\W'=W.drewN n:=by
 subst ht hf;obtain⟨⟨ka,g,c3,A,l,ck,j⟩,⟨y,z,ct⟩,u,w,x,ql,kl,t,m⟩:=h;have d:i<nk:=by have:=(La.1 hk).1;omega
 obtain rfl:=j (by omega);have c:=m i k hk;have s:(i:Int)<(nk:Int):=by omega
 have p:((kid:Int)==1)=true:=by simp;omega
 have eg:decide ((1:Int)<(kid:Int))=false:=by simp;omega
 clear m hk g t j h1 d;rcases hv with rfl|rfl
 ·obtain rfl:i=2:=by omega
  replace c:W.cell? ⟨kd.block,kd.off+2,none⟩=some (.int .i64 (k:Int)):=c;clear hi;go_enter Tryz.func112,Tryz.ntmps112
  go_wp2_with fail
  go_quiet (fail)
  go_wp2_with fail
  go_quiet (fail)
  go_wp2
  go_ret2
  exact⟨_,rfl,rfl⟩
 ·obtain rfl:i=1:=by omega
  replace c:W.cell? ⟨kd.block,kd.off+1,none⟩=some (.int .i64 (k:Int)):=c;clear hi;go_enter Tryz.func112,Tryz.ntmps112
  go_wp2_with fail
  go_quiet (fail)
  go_wp2_with fail
  go_quiet (fail)
  go_wp2
  go_ret2
  exact⟨_,rfl,rfl⟩
theorem AdD (L:Lay)(SB o q kid:Nat)(fv:Value)(tag:Int)(kd:Addr)(nk:Nat)(pos:List Nat)(W:World)(h:TopF L W L.M SB o q kid fv tag kd nk pos)
 (h0:(kid=1/\∃vd n cap v,fv=.slice (some vd) (n+1) cap/\W.cell? vd=some (.int .i64 v)/\UU tag v)\/(¬(kid=1/\asks tag)/\((tag=23/\1<kid)\/(tag≠23/\nk<=kid)))):
 Calls Tryz.prog 112 #[.pointer (some ⟨L.M,0,none⟩),.pointer (some ⟨SB,o,none⟩)] W λe W'=>∃n,e=.returned (.tuple #[.int .i64 0,.bool false])/\W'=W.drewN n:=by
 obtain⟨⟨ka,s,c3,A,w,ck,hA⟩,⟨bd,c2,ct⟩,a0,t,a2,ql,x,pl,pc⟩:=h;clear pc s pl hA;rcases h0 with⟨g,vd,n,cap,v,rfl,cv,u⟩|⟨l,h0⟩
 ·have c:((kid:Int)==1)=true:=by simp;omega
  have d:(tag=18/\v=0)\/(tag=19/\v=1)\/(tag=24/\v=0):=by unfold UU at u;omega
  clear u g;rcases d with⟨rfl,rfl⟩|⟨rfl,rfl⟩|⟨rfl,rfl⟩
  ·go_enter Tryz.func112,Tryz.ntmps112
   go_wp2_with fail
   go_quiet (fail)
   go_wp2_with fail
   go_quiet (fail)
   go_wp2
   go_ret2
   exact⟨_,rfl,rfl⟩
  ·go_enter Tryz.func112,Tryz.ntmps112
   go_wp2_with fail
   go_quiet (fail)
   go_wp2_with fail
   go_quiet (fail)
   go_wp2
   go_ret2
   exact⟨_,rfl,rfl⟩
  ·go_enter Tryz.func112,Tryz.ntmps112
   go_wp2_with fail
   go_quiet (fail)
   go_wp2_with fail
   go_quiet (fail)
   go_wp2
   go_ret2
   exact⟨_,rfl,rfl⟩
 ·rcases h0 with⟨rfl,p⟩|⟨j,p⟩
  ·have c:((kid:Int)==1)=false:=by simp;omega
   have eg:decide ((1:Int)<(kid:Int))=true:=by simp;omega
   have ac:((1:Int)<(kid:Int)):=by omega
   clear l;go_enter Tryz.func112,Tryz.ntmps112
   go_wp2_with fail
   go_quiet (fail)
   go_wp2_with fail
   go_quiet (fail)
   go_wp2
   go_ret2
   exact⟨_,rfl,rfl⟩
  ·have aa:(tag==23)=false:=by simpa using j
   have k:decide ((kid:Int)<(nk:Int))=false:=by simp;omega
   by_cases g:kid=1
   ·have i:tag≠18/\tag≠19/\tag≠24:=by unfold asks at l;omega
    have y:(tag==18)=false:=by simpa using i.1
    have z:(tag==19)=false:=by simpa using i.2.1
    have ab:(tag==24)=false:=by simpa using i.2.2
    have c:((kid:Int)==1)=true:=by simp;omega
    clear l i p g j;generalize (kid:Int)=kI at t x c k;have m:(kI<(nk:Int))=False:=by simpa using k
    clear k;go_enter Tryz.func112,Tryz.ntmps112
    go_wp2_with fail
    go_quiet (fail)
    go_wp2_with fail
    go_quiet (fail)
    go_wp2
    go_ret2
    exact⟨_,rfl,rfl⟩
   ·have c:((kid:Int)==1)=false:=by simp;omega
    clear l p g j;generalize (kid:Int)=kI at t x c k;have m:(kI<(nk:Int))=False:=by simpa using k
    clear k;go_enter Tryz.func112,Tryz.ntmps112
    go_wp2_with fail
    go_quiet (fail)
    go_wp2_with fail
    go_quiet (fail)
    go_wp2
    go_ret2
    exact⟨_,rfl,rfl⟩
theorem JI{P:Program}{ops:Array Oper}{S:World->Prop}{a:Act}{o:Oper}(hw:Region.wanted o (yielded ops a.tmps)=true)(ty:TypeId)(x:Operand)(ho:o.op=.load ty x)(ad:Addr)(hx:a.eval x=.pointer (some ad))(cs:List Value)(d:TypeDesc)
 (hr:∀W,S W->∀(j:Nat) (v:Value),cs[j]? =some v->W.cell? (ad.add j)=some v) (hu:P.underlying ty=some d) (hd:(match d with| .struct _| .array _ _=>true|_=>false)=true) (hi:(P.info? ty).map (·.size)=some cs.length):YieldsIf P ops S o (.agg cs.toArray) a:=
 Qd hw (λW hW=>by simp only[execOp,ho,hx,Instr.loadAt,Instr.sureAddr,Sem.run_bind,Sem.run_pure,Result.andThen_ok,Kj W ad ty cs d (hr W hW) hu hd hi])
section
variable {L:Lay} {s:Ms} {x:FrV} {rs:List FrV} {sv ev:Value} {W W':World} {SB cap:Nat} {cur:Array Value}
theorem MC.drop (h:MC L s (x::rs) ev W):MC L s rs ev W:=
 ⟨h.evs,h.vals,h.arrs,λy hy=>h.fr y (N9 _ hy),(Ni.1 h.dist).2,h.im,h.size,h.sum,by have:=h.few;simp at this;omega⟩
theorem MR.pop (h:MR L s (x::rs) sv ev W)(hL:LOk L)(ht:Top L W x rs sv SB cap cur)(o:Only L.M W W')(hr:Row W' L.M 184 (L.cells s (.slice (some ⟨SB,0,none⟩) rs.length cap) ev)):MR L s rs (.slice (some ⟨SB,0,none⟩) rs.length cap) ev W':=
 ⟨hr,Qx ht.pop o (λe=>by have:=QQ ht.pop e;have:=hL.lt;omega),(h.core.only hL o).drop⟩
theorem MR.drew1 (h:MR L s rs sv ev W)(hL:LOk L):MR L s rs sv ev W.drew:=h.below hL ⟨rfl,rfl,rfl,Nat.le_refl _,λ_ _=>rfl⟩
theorem Top.drew1 (h:Top L W x rs sv SB cap cur):Top L W.drew x rs sv SB cap cur:=h.below ⟨rfl,rfl,rfl,Nat.le_refl _,λ_ _=>rfl⟩
theorem Chg.drew1 (h:Chg L W W'):Chg L W W'.drew:=h.trans ⟨rfl,rfl,rfl,Nat.le_refl _,λ_ _ _ _ _=>rfl⟩
theorem MR.few1 (h:MR L s (x::rs) sv ev W):s.evs.length+rs.length<s.steps:=by have:=h.core.few;simp at this;omega
theorem MR.setVal (h:MR L s rs sv ev W)(hL:LOk L)(n:Nat)(v:Int)(hn:n<s.vals.length):∃g cap cur,L.vv=.slice (some ⟨g,0,none⟩) s.vals.length cap/\Row W g 3 cur/\n<cur.size/\∀W1,Only g W W1->Row W1 g 3 (cur.setIfInBounds n (.int .i64 v))->MR L { s with vals:=s.vals.set n v } rs sv ev W1/\Chg L W W1:=by
 rcases h.core.vals.2 with⟨_,q⟩|⟨g,cap,cur,k,w,z,x,hm,j,ht⟩
 ·have:=h.core.vals.1;rw[q]at this;simp[Qi]at this;omega
 ·have c:L.vv.ownBlock=some g:=by rw[k];rfl
  refine⟨g,cap,cur,k,z,by omega,λW1 o r1=>?_⟩;have d:=hL.vlt g c;have ne:∀{e:TypeId} {size m:Nat} {u:Value} {xs:List Value},W.ownsRow L.b1 e size u m xs->W1.ownsRow L.b1 e size u m xs:=λl=>Qx l o (λe=>by have:=QQ l e;omega)
  refine⟨⟨h.row.only o (λe=>d.2.1 e.symm),ne h.stack,⟨ne h.core.evs,⟨by have:=h.core.vals.1;simp[Qi]at this|-,.inr ⟨g,cap,_,by simpa using k,w,r1,by simpa using x,hm,by simpa using j,?_⟩⟩,?_,λy hy=>ne (h.core.fr y hy),h.core.dist,hL.im _ _ h.core.im (.only o (.inr (.inr (.inl c)))),by rw[o.size];exact h.core.size,h.core.sum,h.core.few⟩⟩,.only o (.inr (.inr (.inl c)))⟩
  ·simp only[Array.toList_setIfInBounds,LM];rw[List.take_set,ht];simp[Qi,List.map_set]
  ·intro i p a hi t;exact(h.core.arrs i p a hi t).only o (λe=>d.2.2 (by subst e;exact Lf hi))
theorem MR.setArr (h:MR L s rs sv ev W)(hL:LOk L)(n i:Nat)(v:Int)(a:List Int)(g:Nat)(hg:L.ab[n]? =some g)(ha:s.arrs[n]? =some a):Row W g 3 (Qi a).toArray/\∀W1,Only g W W1->Row W1 g 3 ((Qi a).toArray.setIfInBounds i (.int .i64 v))->MR L { s with arrs:=s.arrs.set n (a.set i v) } rs sv ev W1/\Chg L W W1:=by
 refine⟨h.core.arrs n g a hg ha,λW1 o r1=>?_⟩;have l:=Lf hg;have w:=hL.alt g l;have ne:∀{e:TypeId} {size m:Nat} {u:Value} {xs:List Value},W.ownsRow L.b1 e size u m xs->W1.ownsRow L.b1 e size u m xs:=λh'=>Qx h' o (λe=>by have:=QQ h' e;omega)
 refine⟨⟨h.row.only o (λe=>w.2 e.symm),ne h.stack,⟨ne h.core.evs,Qx h.core.vals o (λe=>(hL.vlt g e).2.2 l),?_,λy hy=>ne (h.core.fr y hy),h.core.dist,hL.im _ _ h.core.im (.only o (.inr (.inr (.inr l)))),by rw[o.size];exact h.core.size,h.core.sum,h.core.few⟩⟩,.only o (.inr (.inr (.inr l)))⟩;intro j g' b k p;by_cases c:j=n
 ·subst c;rw[hg]at k;cases k;have t:j<s.arrs.length:=(La.1 ha).1;simp only[N1 t,Nc]at p;subst p;have:(Qi (a.set i v)).toArray=(Qi a).toArray.setIfInBounds i (.int .i64 v):=by simp[Qi,List.map_set]
  rw[this];exact r1
 ·have q:s.arrs[j]? =some b:=by simpa[List.getElem?_set,Ne.symm c]using p
  refine(h.core.arrs j g' b k q).only o (λe=>c ?_);subst e;have h1:=La.1 hg;have h2:=La.1 k;obtain⟨l1,x⟩:=h1;obtain⟨l2,z⟩:=h2;rcases Nk j n with d|d|d
  ·exact absurd (z.trans x.symm) (LY.1 hL.and j n l2 l1 d)
  ·exact d
  ·exact absurd (x.trans z.symm) (LY.1 hL.and n j l1 l2 d)
end
structure RChg (L:Lay)(ev:Value)(W:World)(ev':Value)(W':World):Prop where
 os:W'.os=W.os
 tape:W'.tape=W.tape
 output:W'.output=W.output
 size:W.heap.size<=W'.heap.size
 block:∀k,k<W.heap.size->k≠L.M->L.vv.ownBlock≠some k->k∉L.ab->ev.ownBlock≠some k->W'.heap[k]? =W.heap[k]?
 evb:∀k,ev'.ownBlock=some k->ev.ownBlock=some k\/W.heap.size<=k
theorem RChg.refl (L:Lay)(ev:Value)(W:World):RChg L ev W ev W:=⟨rfl,rfl,rfl,Nat.le_refl _,λ_ _ _ _ _ _=>rfl,λ_ h=>.inl h⟩
theorem RChg.trans{L:Lay}{a b c:Value}{A B C:World}(h:RChg L a A b B)(k:RChg L b B c C):RChg L a A c C:=
 ⟨k.os.trans h.os,k.tape.trans h.tape,k.output.trans h.output,Ld h.size k.size,λi h0 h1 h2 h3 h4=>(k.block i (Lg h0 h.size) h1 h2 h3 (λe=>(h.evb i e).elim h4 (λe=>by omega))).trans (h.block i h0 h1 h2 h3 h4),λi e=>(k.evb i e).elim (λe=>h.evb i e) (λe=>.inr (Ld h.size e))⟩
theorem RChg.only{L:Lay}{ev:Value}{A B:World}{g:Nat}(o:Only g A B)(h:g=L.M\/L.vv.ownBlock=some g\/g∈L.ab):RChg L ev A ev B:=
 ⟨o.os,o.tape,o.output,LD o.size.symm,λk _ h2 h3 h4 _=>o.block k (λe=>by subst e;rcases h with h|h|h;exact h2 h;exact h3 h;exact h4 h),λ_ h=>.inl h⟩
theorem RChg.below{L:Lay}{ev:Value}{A B:World}(b:Below A.heap.size A B):RChg L ev A ev B:=⟨b.os,b.tape,b.output,b.size,λk h1 _ _ _ _=>b.block k h1,λ_ h=>.inl h⟩
theorem RChg.grown{L:Lay}{ev ev':Value}{A B:World}(h:A.grownBy B ev.ownBlock)(ha:∀k,ev'.ownBlock=some k->ev.ownBlock=some k\/A.heap.size<=k):RChg L ev A ev' B:=
 ⟨h.os,h.tape,h.output,h.size,λk h1 _ _ _ h4=>h.block k h1 (λe=>h4 e.symm),ha⟩
structure Far (L:Lay)(ev:Value)(W:World)(k:Nat):Prop where
 lo:L.b1<=k
 ev:ev.ownBlock≠some k
 lt:k<W.heap.size
theorem Far.go{L:Lay}{ev ev':Value}{W W':World}{k:Nat}(h:Far L ev W k)(c:RChg L ev W ev' W'):Far L ev' W' k:=
 ⟨h.lo,λe=>(c.evb k e).elim h.ev (λe=>by have:=h.lt;omega),Lg h.lt c.size⟩
theorem Far.same{L:Lay}{ev ev':Value}{W W':World}{k:Nat}(h:Far L ev W k)(hL:LOk0 L)(c:RChg L ev W ev' W'):W'.heap[k]? =W.heap[k]? :=
 c.block k h.lt (by have:=hL.lt;have:=h.lo;omega) (λe=>by have:=(hL.vlt k e).1;have:=h.lo;omega) (λe=>by have:=(hL.alt k e).1;have:=h.lo;omega) h.ev
def FRow (L:Lay)(ev:Value)(W:World)(k:Nat)(t:TypeId)(cs:Array Value):Prop:=Far L ev W k/\Row W k t cs
theorem FRow.go{L:Lay}{ev ev':Value}{W W':World}{k:Nat}{t:TypeId}{cs:Array Value}(h:FRow L ev W k t cs)(hL:LOk0 L)(c:RChg L ev W ev' W'):FRow L ev' W' k t cs:=⟨h.1.go c,(h.1.same hL c).trans h.2⟩
def FRd (L:Lay)(ev:Value)(W:World)(A:Option Addr)(xs:List Value):Prop:=Rd W A xs/\∀ad,A=some ad->Far L ev W ad.block
theorem FRd.go{L:Lay}{ev ev':Value}{W W':World}{A:Option Addr}{xs:List Value}(h:FRd L ev W A xs)(hL:LOk0 L)(c:RChg L ev W ev' W'):FRd L ev' W' A xs:=by
 refine⟨λj u i=>?_,λd e=>(h.2 d e).go c⟩;obtain⟨d,e,g⟩:=h.1 j u i;refine⟨d,e,?_⟩;have:=(h.2 d e).same hL c;simp only[World.cell?,JG]at g|-;rw[this];exact g
end Go.Proofs.YtkoikjnlpifbjaaGreat
