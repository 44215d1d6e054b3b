/- Lemmas for RunnerKillsP. -/
import Derived.Test.YtkoikjnlpifbjaaGreatZk1
import Derived.Test.YtkoikjnlpifbjaaGreatZk23
import Derived.Test.YtkoikjnlpifbjaaGreatZk24
import Derived.Test.YtkoikjnlpifbjaaGreatZk29
import Derived.Test.YtkoikjnlpifbjaaGreatZk31
import Derived.Test.YtkoikjnlpifbjaaGreatZk19
import Derived.Test.YtkoikjnlpifbjaaGreatZk18
set_option linter.unusedVariables false
set_option linter.unusedSimpArgs false
set_option maxRecDepth 100000
set_option maxHeartbeats 16000000
namespace Go.Proofs.YtkoikjnlpifbjaaGreat
open Go.RowKit Go.Deep
theorem Ji{p q:PgV}(h1:p.params=q.params)(h2:p.V=q.V)(h3:p.body=q.body){t:Tr}:Good p t<->Good q t:=by
 obtain⟨a,b,c,d,e,f,g⟩:=p;obtain⟨i,j,k,l,m,n,o⟩:=q;simp only at h1 h2 h3;subst h1 h2 h3;exact⟨λh=>⟨h.hat,h.size,h.vars,h.tag,h.kind⟩,λh=>⟨h.hat,h.size,h.vars,h.tag,h.kind⟩⟩
theorem Ux{p q:PgV}(h1:p.params=q.params)(h2:p.V=q.V)(h3:p.body=q.body)(n:Nat)(fuel:Int):Q7 p n fuel=Q7 q n fuel:=by
 by_cases h:∃t,Good p t
 ·obtain⟨t,c⟩:=h;rw[JU c,JU ((Ji h1 h2 h3).1 c),h1]
 ·rw[JV λt c=>h ⟨t,c⟩,JV λt c=>h ⟨t,(Ji h1 h2 h3).2 c⟩]
theorem Aak{p q:PgV}(h1:p.params=q.params)(h2:p.V=q.V)(h3:p.body=q.body)(args:List Int)(fuel:Int):QG p args fuel=QG q args fuel:=by
 have d:=Ux h1 h2 h3 args.length fuel
 have c:∀s,IsRun p args fuel s<->IsRun q args fuel s:=λs=>by
  unfold IsRun;rw[h2];exact⟨λ⟨t,v,s',a,b⟩=>⟨t,v,s',(Ji h1 h2 h3).1 a,b⟩,λ⟨t,v,s',a,b⟩=>⟨t,v,s',(Ji h1 h2 h3).2 a,b⟩⟩
 by_cases h:Q7 p args.length fuel=0
 ·by_cases k:∃s,IsRun p args fuel s
  ·obtain⟨s,k⟩:=k;rw[Acj h k,Acj (d▸h) ((c s).1 k)]
  ·unfold QG;rw[dif_neg (λx=>k x.2),dif_neg (λx=>k (x.2.imp λs g=>(c s).2 g))]
 ·rw[Y3 h,Y3 (λe=>h (d.trans e))]
noncomputable def rnZ (p:PgV)(fuel:Int)(args:List Int):Rn:=⟨((QG p args fuel).out.getD (0,0)).1,((QG p args fuel).out.getD (0,0)).2,Uz ((QG p args fuel).rv none 0)⟩
theorem XZ{p q:PgV}(h1:p.params=q.params)(h2:p.V=q.V)(h3:p.body=q.body)(fuel:Int):rnZ p fuel=rnZ q fuel:=by
 funext args;unfold rnZ;rw[Aak h1 h2 h3]
noncomputable def JS (p:PgV)(d:Dl):PgV:=⟨p.params,none,0,p.V,none,0,mutB p d⟩
theorem IsMut.rn{p m:PgV}{d:Dl}(h:IsMut p d m)(fuel:Int):rnZ m fuel=rnZ (JS p d) fuel:=XZ (q:=JS p d) h.par h.vars h.body fuel
theorem IsMut.run{p m:PgV}{d:Dl}(h:IsMut p d m)(args:List Int)(fuel:Int):QG m args fuel=QG (JS p d) args fuel:=Aak (q:=JS p d) h.par h.vars h.body args fuel
noncomputable def QV (p:PgV)(d:Dl)(ts:List (List Int))(fuel:Int):Mt:=Za (rnZ p fuel) (rnZ (JS p d) fuel) d ts
noncomputable def Zo (p:PgV)(ts:List (List Int))(fuel:Int):Int:=if QX p≠0 then QX p else Z3 p.params ts fuel
noncomputable def Kt (p:PgV)(d:Dl)(ts:List (List Int))(fuel:Int):Int:=if Zo p ts fuel≠0 then Zo p ts fuel else mutC p d
theorem X0{params fuel:Int}{ts:List (List Int)}(h:Z3 params ts fuel=0):1<=ts.length/\ts.length<=20/\(∀l∈ts,(l.length:Int)=params)/\1<=fuel/\fuel<=10000:=by
 unfold Z3 at h;split at h
 ·cases h
 ·split at h
  ·split at h
   ·cases h
   ·rename_i d c e;exact⟨by omega,by omega,c,by omega,by omega⟩
  ·cases h
section
variable {α:Type} {f g:α->Rn}
theorem AfV{pre rest:List α}{x:α}:((pre++x::rest).map g).getD pre.length ⟨0,0,[]⟩=g x:=by
 rw[LJ,L4,Lx (Nat.le_refl _),N3];rfl
theorem Y8{pre rest:List α}:Zs f g (pre++rest)=Zs f g pre++Zs f g rest:=by unfold Zs;rw[LN]
theorem Vv{pre:List α}:(Zs f g pre).length=pre.length:=by unfold Zs;simp
theorem ES{d:Dl}{pre rest:List α}{x:α}(h1:(1:Int)∉Zs f g pre)(hx:Q2 (f x) (g x)=1):Za f g d (pre++x::rest)=⟨d,1,(pre.length:Int),(g x).kind,(g x).value,(g x).dig⟩:=by
 have e:Zs f g (pre++x::rest)=Zs f g pre++1::Zs f g rest:=by rw[Y8];unfold Zs;rw[LP,hx]
 unfold Za AdJ;rw[e,AkQ _ h1,Vv,if_neg (by simp)];simp only[Ln,AfV]
theorem AeY{d:Dl}{pre:List α}{x:α}(h1:(1:Int)∉Zs f g pre)(h2:(2:Int)∉Zs f g pre)(hx:Q2 (f x) (g x)=2):Za f g d (pre++[x])=⟨d,2,(pre.length:Int),(g x).kind,(g x).value,(g x).dig⟩:=by
 have e:Zs f g (pre++[x])=Zs f g pre++[2]:=by rw[Y8];unfold Zs;rw[LP,hx,Nv]
 unfold Za AdJ;rw[e,AkR h1 h2,Vv,if_neg (by simp)];simp only[Ln,AfV]
theorem AeX{d:Dl}{pre:List α}{x:α}(h1:(1:Int)∉Zs f g pre)(hx1:¬Q2 (f x) (g x)=1)(hx2:Q2 (f x) (g x)=2->¬(Za f g d pre).verdict=0):Za f g d (pre++[x])=Za f g d pre:=by
 have e:Zs f g (pre++[x])=Zs f g pre++[Q2 (f x) (g x)]:=by rw[Y8];unfold Zs;rw[LP,Nv]
 have l:ZK (Zs f g (pre++[x]))=ZK (Zs f g pre):=by
  rw[e];by_cases j:Q2 (f x) (g x)=2
  ·have k:=hx2 j;rw[Yh]at k
   have n:(2:Int)∈Zs f g pre:=by
    by_cases h:(2:Int)∈Zs f g pre
    ·exact h
    ·exact absurd (best_v0.2 ⟨h1,h⟩) k
   exact Aju h1 n hx1
  ·exact AkP hx1 j
 by_cases c:(ZK (Zs f g pre)).1=0
 ·rw[VZ c,VZ (by rw[l];exact c)]
 ·unfold Za AdJ;rw[l,if_neg c,if_neg c];obtain⟨i,hi,m,_⟩:=AfN c;rw[hi,Ln,Aid (by rw[Vv]at m;exact m)]
end
theorem PgV.ok.kx{p:PgV}{X:Nat->Prop}{W W':World}(h:p.ok W)(hv:Qi p.V≠[]->∀ad,p.va=some ad->¬X ad.block)(hb:p.body.flatMap Nd.cells≠[]->∀ad,p.ba=some ad->¬X ad.block)(k:KpX X W W'):p.ok W':=
 ⟨h.par,h.vlen,h.vmax,h.vnil,k.rd h.vrd hv,h.vin,h.blen,h.bmax,h.bnil,k.rd h.brd hb,h.bin⟩
structure MutR (p:PgV)(d:Dl)(w w':World)(e:Ending):Prop where
 ex:∃m:PgV,e=.returned (.tuple #[.agg m.cells,.int .i64 (mutC p d)])/\(mutC p d=0->IsMut p d m/\m.ok w'/\m.body.length<=p.body.length+1/\∀ad,m.va=some ad\/m.ba=some ad->w.heap.size<=ad.block)/\(mutC p d≠0->m=⟨0,none,0,[],none,0,[]⟩)/\Below w.heap.size w w'
theorem AdM (p:PgV)(x:DlV)(w:World)(hok:p.ok w)(hbl:p.body.length<=1000)(hc:QX p≠0):
 Calls Tryz.prog 21 #[.agg p.cells,.agg x.cells] w λe w'=>e=.returned (.tuple #[.agg (PgV.mk 0 none 0 [] none 0 []).cells,.int .i64 (QX p)])/\Below w.heap.size w w':=by
 have HS:Hid (∀W,Below w.heap.size w W->Calls Tryz.prog 15 #[.agg p.cells] W λe w'=>AllR p W w' e):=λW b=>Yn p hbl W (hok.go b);obtain⟨c,d⟩:∃c,c=QX p:=⟨_,rfl⟩;have y:=Lh d;rw[<-d]at hc|-;have ac:(c != 0)=true:=by simpa using hc
 clear hok hbl d hc;go_enter Tryz.func21,Tryz.ntmps21
 go_wp2_with (refine Qq _ _ rfl ?_)
 refine Stop.to ?_;refine Qe rfl 25 _ rfl p.cells rfl ?_;intro G Gw Gh v Gb;go_wp2_with (refine Qq _ _ rfl ?_)
 refine Stop.to ?_;refine Qe rfl 50 _ rfl x.cells rfl ?_;intro D Dw t u s;go_wp2_with (first|fail| (refine QH _ rfl ?_))
 refine Stop.to ?_;refine Qj rfl 25 rfl _ _ KT rfl ?_;intro R Rw g Rr n;have z:=(Below.refl w.heap.size w).trans (Gb.mono Gh);have o:=z.trans ((s.mono t).mono z.size);have q:=o.trans ((n.mono g).mono o.size);have hR:w.heap.size<=R:=Ld o.size g;have rG:=(v.below s (Lg v.lt t));have l:=rG.below n (Lg rG.lt g);have rD:=u.below n (Lg u.lt g);have m:Row Rw R 25 #[.int .i64 0,.slice none 0 0,.slice none 0 0]:=Rr;have H1:=Lh (HS.out _ q);clear v Gb Gh u s t n g rG z o Rr HS;go_wp2_with (refine wpList_load_row rfl 25 _ rfl G rfl 25 p.cells (0,0) _ l Tryz.underlying25 rfl (by kernel_rfl) ?_)
 refine H1.out.mono ?_;rintro e w1 ⟨A,ab,xs,rfl,aa,h,k,hT,j,_,i,b4⟩;rw[<-y.out];have b5:=q.trans (b4.mono q.size);replace m:=m.below b4 m.lt;clear H1 aa h k hT j i b4 q l rD;go_wp2_with (refine Qs 25 _ _ rfl ?_)
 refine Stop.to ?_;refine Qk rfl 25 _ _ rfl R (PgV.mk 0 none 0 [] none 0 []).cells rfl rfl 25 _ m (by kernel_rfl) rfl (by simp[PgV.cells,Value.oneCell']) ?_;intro W9 r9 o9;have bE:=Qp b5 o9 hR;clear b5 o9 m;go_wp2_with fail
 refine bodyPost_ret (QZ Tryz.results21 _ _ R 25 _ (0,0) _ rfl r9 Tryz.underlying25 rfl (by kernel_rfl)) rfl ?_;exact⟨rfl,bE⟩
theorem AdL (p:PgV)(t:Tr)(x:DlV)(w:World)(hok:p.ok w)(hx:DlOk w x)(hbl:p.body.length<=1000)(hg:Fine p t)(hd:x.d∉Ze p.body t):
 Calls Tryz.prog 21 #[.agg p.cells,.agg x.cells] w λe w'=>e=.returned (.tuple #[.agg (PgV.mk 0 none 0 [] none 0 []).cells,.int .i64 17])/\Below w.heap.size w w':=by
 have HS:Hid (∀W,Below w.heap.size w W->Calls Tryz.prog 15 #[.agg p.cells] W λe w'=>AllR p W w' e):=λW b=>Yn p hbl W (hok.go b);have HX:Hid (∀W,Below w.heap.size w W->DlOk W x):=λW b=>⟨hx.1.go b,hx.2⟩;have Hd:=Lh hd;have Hg:=Lh hg;have Hc:=Lh (checkP_ok.2 ⟨t,hg⟩);clear hok hx hbl hg hd;go_enter Tryz.func21,Tryz.ntmps21
 go_wp2_with (refine Qq _ _ rfl ?_)
 refine Stop.to ?_;refine Qe rfl 25 _ rfl p.cells rfl ?_;intro G Gw Gh Gr Gb;go_wp2_with (refine Qq _ _ rfl ?_)
 refine Stop.to ?_;refine Qe rfl 50 _ rfl x.cells rfl ?_;intro D Dw Dh Dr Db;go_wp2_with (first|fail| (refine QH _ rfl ?_))
 refine Stop.to ?_;refine Qj rfl 25 rfl _ _ KT rfl ?_;intro R Rw l Rr v;have b1:=(Below.refl w.heap.size w).trans (Gb.mono Gh);have z:=b1.trans ((Db.mono Dh).mono b1.size);have b3:=z.trans ((v.mono l).mono z.size);have hR:w.heap.size<=R:=Ld z.size l;have rG:=(Gr.below Db (Lg Gr.lt Dh));have u:=rG.below v (Lg rG.lt l);have s:=Dr.below v (Lg Dr.lt l);have i:Row Rw R 25 #[.int .i64 0,.slice none 0 0,.slice none 0 0]:=Rr;have H1:=Lh (HS.out _ b3);clear Gr Gb Gh Dr Db Dh v l rG b1 z Rr HS;go_wp2_with (refine wpList_load_row rfl 25 _ rfl G rfl 25 p.cells (0,0) _ u Tryz.underlying25 rfl (by kernel_rfl) ?_)
 refine H1.out.mono ?_;rintro e w1 ⟨A,aa,xs,rfl,q,m,o,hT,g,_,n,b4⟩;rw[Hc.out];have c:=g t Hg.out;have b5:=b3.trans (b4.mono b3.size);replace s:=s.below b4 s.lt;replace i:=i.below b4 i.lt;have j:=Lh (Add A aa xs x w1 q (by omega) (λy hy=>(hT y hy).ok) (HX.out _ b5) (by rw[c];exact U7 _ _));have k:Hid (¬x.d∈xs.map DlV.d):=by show ¬_;rw[c];exact Hd.out
 clear H1 q m o hT g c n b4 b3;go_wp2_with (refine wpList_load_row rfl 50 _ rfl D rfl 50 x.cells (0,0) _ s Tryz.underlying50 rfl (by kernel_rfl) ?_)
 refine j.out.mono ?_;rintro e w2 ⟨⟨r,rfl,hr⟩,b6⟩
 have ab:r<0:=by
  by_cases h:0<=r
  ·exact absurd (hr.1 h) k.out
  ·omega
 have b7:=b5.trans (b6.mono b5.size);replace i:=i.below b6 i.lt;clear j k hr b6 b5 HX s u;go_wp2_with (refine Qs 25 _ _ rfl ?_)
 refine Stop.to ?_;refine Qk rfl 25 _ _ rfl R (PgV.mk 0 none 0 [] none 0 []).cells rfl rfl 25 _ i (by kernel_rfl) rfl (by simp[PgV.cells,Value.oneCell']) ?_;intro W9 r9 o9;have bE:=Qp b7 o9 hR;clear b7 o9 i;go_wp2_with fail
 refine bodyPost_ret (QZ Tryz.results21 _ _ R 25 _ (0,0) _ rfl r9 Tryz.underlying25 rfl (by kernel_rfl)) rfl ?_;exact⟨rfl,bE⟩
theorem Yj (p:PgV)(x:DlV)(w:World)(hok:p.ok w)(hx:DlOk w x)(hbl:p.body.length<=1000):
 Calls Tryz.prog 21 #[.agg p.cells,.agg x.cells] w λe w'=>MutR p x.d w w' e:=by
 by_cases j:QX p=0
 ·obtain⟨t,g⟩:=checkP_ok.1 j;by_cases i:x.d∈Ze p.body t
  ·obtain⟨q,k,l,_,s⟩:=Afd p t x w hok hx hbl g i (Afe p hbl);obtain⟨v,y⟩:=AcP g.good i l hok.bin;have c:=Afc g i;have u:=Ea g l;refine s.mono λe w' h=>?_
   obtain⟨m,o,⟨z,m2,n⟩,m4,m6,m5⟩:=h.okm hok v;exact⟨m,by rw[c];exact o,λ_=>⟨⟨z,m2,n.trans u.symm⟩,m4,by rw[n];exact y,m6⟩,λh=>absurd c h,m5⟩
  ·have c:=Aj6 g i;refine(AdL p t x w hok hx hbl g i).mono ?_;rintro e w' ⟨rfl,b⟩;exact⟨_,by rw[c],λh=>(by rw[c]at h;cases h),λ_=>rfl,b⟩
 ·have c:=Ak3 (d:=x.d) j;refine(AdM p x w hok hbl j).mono ?_;rintro e w' ⟨rfl,b⟩;exact⟨_,by rw[c],λh=>absurd (c.symm.trans h) j,λ_=>rfl,b⟩
theorem Afs{p:PgV}{args:List Int}{fuel:Int}{w:World}(hok:p.ok w)(hin:∀a∈args,InI a):
 InI ((QG p args fuel).out.getD (0,0)).1/\InI ((QG p args fuel).out.getD (0,0)).2/\InI ((QG p args fuel).steps:Int)/\∀e∈(QG p args fuel).evs,e.ok:=by
 by_cases g:Q7 p args.length fuel=0
 ·obtain⟨t,v,i,c⟩:=Y2 hok hin g;have hi:=(c.big.inv (c.okO:okG p.V (.one t)) c.init).1;have n:=c.steps;obtain⟨_,_,_,m⟩:=KO g;rw[c.eq]
  have d:OkS p.V (i.stopped 3 0):=by
   unfold Ms.stopped;split
   ·exact hi
   ·exact hi.stop (.inr ⟨by omega,by omega,rfl⟩)
  refine⟨?_,?_,by rw[AaV];unfold InI;omega,λe h=>(d.evs e h).ok⟩
  ·cases ho:(i.stopped 3 0).out with
   |none=>exact Jf
   |some o=>
    obtain⟨k,x⟩:=o;rcases d.out k x ho with⟨rfl,_⟩|⟨j,l,_⟩
    ·exact Jf
    ·show InI k;unfold InI;omega
  ·cases ho:(i.stopped 3 0).out with
   |none=>exact Jf
   |some o=>
    obtain⟨k,x⟩:=o;rcases d.out k x ho with⟨_,j⟩|⟨_,_,rfl⟩
    ·exact j
    ·exact Jf
 ·rw[Y3 g];exact⟨Jf,Jf,Jf,λe h=>by simp[Ajd]at h⟩
theorem AkL{p:PgV}{args:List Int}{fuel:Int}{w W:World}{A:Option Addr}{c:Nat}(hok:p.ok w)(hin:∀a∈args,InI a)(hle:(QG p args fuel).evs.length<=c)(hmx:c<=maxLen)(hni:A=none->c=0)(hrd:Rd3 ((QG p args fuel).rv A c) W):((QG p args fuel).rv A c).ok W:=by
 obtain⟨d,e,g,h⟩:=Afs (fuel:=fuel) hok hin;exact⟨d,e,g,hle,hmx,hni,hrd,h⟩
attribute [local go_sem] Oper.semAt_some
theorem VG (k v k' v':Int)(W:World):(binOp .neq 52 (.agg (Jv k v).toArray) (.agg (Jv k' v').toArray)).run Tryz.prog W=.ok (.bool (!(k==k' && v==v'))) W:=by
 unfold Jv;simp[go_sem];by_cases c:k=k'<;>by_cases d:v=v'<;>simp[c,d]
def Rn.cells (r:Rn):Array Value:=(Jv r.kind r.value).toArray
theorem Ahn (b r:Rn)(w:World):Calls Tryz.prog 54 #[.agg b.cells,.agg r.cells] w λe w'=>e=.returned (.int .i64 (Q2 b r))/\Below w.heap.size w w':=by
 go_enter Tryz.func54,Tryz.ntmps54
 go_wp2_with (refine Qq _ _ rfl ?_)
 refine Stop.to ?_;refine Qe rfl 52 _ rfl b.cells rfl ?_;intro G Gw x j u;go_wp2_with (refine Qq _ _ rfl ?_)
 refine Stop.to ?_;refine Qe rfl 52 _ rfl r.cells rfl ?_;intro J Jw q s p;have t:=(Below.refl w.heap.size w).trans (u.mono x);have n:=t.trans ((p.mono q).mono t.size);replace j:=j.below p (Lg j.lt q);clear u x p q t;have y:=j.cellv (i:=0) (v:=.int .i64 b.kind) rfl;have z:=s.cellv (i:=0) (v:=.int .i64 r.kind) rfl;by_cases g:b.kind=4
 ·have e1:(b.kind==4)=true:=by simpa using g
  have d:Hid (Q2 b r=0):=by show _=_;unfold Q2;rw[if_pos g]
  rw[g]at y;clear g;go_wp2_with fail
  go_ret
  exact⟨by rw[d.out];rfl,n⟩
 have e1:(b.kind==4)=false:=by simpa using g
 by_cases l:r.kind=4
 ·have d:Hid (Q2 b r=2):=by show _=_;unfold Q2;rw[if_neg g,if_pos l]
  rw[l]at z;clear l;go_wp2_with fail
  go_ret
  exact⟨by rw[d.out];rfl,n⟩
 have e2:(r.kind==4)=false:=by simpa using l
 have k:=VG r.kind r.value b.kind b.value;have d:Hid (Q2 b r=if r.kind=b.kind/\r.value=b.value then 0 else 1):=by show _=_;unfold Q2;rw[if_neg g,if_neg l]
 by_cases h:r.kind=b.kind/\r.value=b.value
 ·rw[if_pos h]at d;have m:(!(r.kind==b.kind && r.value==b.value))=false:=by simp[h.1,h.2]
  rw[m]at k;have o:=Lh k;clear h m k;go_wp2_with (first| (refine wpList_load_row rfl 52 _ rfl J rfl 52 r.cells (0,0) _ s Tryz.underlying52 rfl (by kernel_rfl) ?_)| (refine wpList_load_row rfl 52 _ rfl G rfl 52 b.cells (0,0) _ j Tryz.underlying52 rfl (by kernel_rfl) ?_)| (refine Zm rfl _ (Ki rfl _ (run_eqGuard_agg _ _ _ _ _ _ _ (by kernel_rfl)) (o.out _)) ?_))
  go_ret
  exact⟨by rw[d.out];rfl,n⟩
 ·rw[if_neg h]at d
  have m:(!(r.kind==b.kind && r.value==b.value))=true:=by
   by_cases a:r.kind=b.kind
   ·have:¬r.value=b.value:=λc=>h ⟨a,c⟩
    simp[a,this]
   ·simp[a]
  rw[m]at k;have o:=Lh k;clear h m k;go_wp2_with (first| (refine wpList_load_row rfl 52 _ rfl J rfl 52 r.cells (0,0) _ s Tryz.underlying52 rfl (by kernel_rfl) ?_)| (refine wpList_load_row rfl 52 _ rfl G rfl 52 b.cells (0,0) _ j Tryz.underlying52 rfl (by kernel_rfl) ?_)| (refine Zm rfl _ (Ki rfl _ (run_eqGuard_agg _ _ _ _ _ _ _ (by kernel_rfl)) (o.out _)) ?_))
  go_ret
  exact⟨by rw[d.out];rfl,n⟩
structure RunsFn (p:PgV)(A:Option Addr)(n cap:Nat)(fuel:Int)(w w':World)(e:Ending):Prop where
 ex:∃bt bp bf,e=.returned (.func (.func 83) #[] #[.pointer (some ⟨bt,0,none⟩),.pointer (some ⟨bp,0,none⟩),.pointer (some ⟨bf,0,none⟩)])/\Row w' bt 26 #[.slice A n cap]/\Row w' bp 25 p.cells/\Row w' bf 3 #[.int .i64 fuel]/\w.heap.size<=bt/\w.heap.size<=bp/\w.heap.size<=bf/\Below w.heap.size w w'
theorem Afu (p:PgV)(A:Option Addr)(n cap:Nat)(fuel:Int)(w:World):
 Calls Tryz.prog 53 #[.agg p.cells,.slice A n cap,.int .i64 fuel] w λe w'=>RunsFn p A n cap fuel w w' e:=by
 go_enter Tryz.func53,Tryz.ntmps53
 go_wp2_with (refine Qq _ _ rfl ?_)
 refine Stop.to ?_;refine Qe rfl 25 _ rfl p.cells rfl ?_;intro G y o c m;go_wp2_with (refine Qq _ _ rfl ?_)
 refine Stop.to ?_;refine Qe rfl 26 _ rfl #[.slice A n cap] rfl ?_;intro J z j k d;go_wp2_with (refine Qq _ _ rfl ?_)
 refine Stop.to ?_;refine Qe rfl 3 _ rfl #[.int .i64 fuel] rfl ?_;intro K Kw l q g;have v:=(c.below d (Lg c.lt j)).below g (by have:=c.lt;have:=d.size;omega);have x:=k.below g (Lg k.lt l);have h:=(Below.refl w.heap.size w).trans (m.mono o);have i:=h.trans ((d.mono j).mono h.size);have s:=i.trans ((g.mono l).mono i.size);have t:w.heap.size<=J:=Ld h.size j;have u:w.heap.size<=K:=Ld i.size l;clear c k m d g h i;go_wp2
 go_ret
 exact⟨J,G,K,rfl,x,v,q,t,o,u,s⟩
structure RnX where
 i:Nat
 r:RunV
def RnX.enc (x:RnX):Array Value:=#[.int .i64 (x.i:Int),x.r.val]
def RnP (p:PgV)(fuel:Int)(ts:List (List Int))(pre:List RnX)(x:RnX)(W:World):Prop:=x.i=pre.length/\(∃l,ts[pre.length]? =some l/\∃A c,x.r=(QG p l fuel).rv A c)/\x.r.ok W/\x.r.evs.length<=10000
structure RunsC (p:PgV)(A:Option Addr)(cap:Nat)(ts:List IntsV)(fuel:Int)(X:Nat->Prop)(bt bp bf:Nat)(W:World):Prop where
 ok:p.ok W
 xv:Qi p.V≠[]->∀ad,p.va=some ad->¬X ad.block
 xb:p.body.flatMap Nd.cells≠[]->∀ad,p.ba=some ad->¬X ad.block
 rt:Rd W A (Jo ts)
 xt:Jo ts≠[]->∀ad,A=some ad->¬X ad.block
 ot:∀x∈ts,x.ok W
 xo:∀x∈ts,Qi x.l≠[]->∀ad,x.addr=some ad->¬X ad.block
 r1:Row W bt 26 #[.slice A ts.length cap]
 r2:Row W bp 25 p.cells
 r3:Row W bf 3 #[.int .i64 fuel]
 x1:¬X bt
 x2:¬X bp
 x3:¬X bf
theorem IntsV.ok.kx{x:IntsV}{X:Nat->Prop}{W W':World}(h:x.ok W)(hx:Qi x.l≠[]->∀ad,x.addr=some ad->¬X ad.block)(k:KpX X W W'):x.ok W':=⟨h.len,h.cap,h.nil,k.rd h.reads hx,h.all⟩
theorem RunsC.kx{p:PgV}{A:Option Addr}{cap:Nat}{ts:List IntsV}{fuel:Int}{X:Nat->Prop}{bt bp bf:Nat}{W W':World}(h:RunsC p A cap ts fuel X bt bp bf W)(k:KpX X W W'):RunsC p A cap ts fuel X bt bp bf W':=
 ⟨h.ok.kx h.xv h.xb k,h.xv,h.xb,k.rd h.rt h.xt,h.xt,λx hx=>(h.ot x hx).kx (h.xo x hx) k,h.xo,k.row h.r1 h.x1,k.row h.r2 h.x2,k.row h.r3 h.x3,h.x1,h.x2,h.x3⟩
theorem RunsC.add{p:PgV}{A:Option Addr}{cap:Nat}{ts:List IntsV}{fuel:Int}{X:Nat->Prop}{bt bp bf:Nat}{w W:World}{lb:Nat}(h:RunsC p A cap ts fuel X bt bp bf w)(b:Below w.heap.size w W)(h1:w.heap.size<=lb):RunsC p A cap ts fuel (λi=>X i\/i=lb) bt bp bf W:=by
 have d:=h.kx (KpX.of_below b)
 have c:∀{xs:List Value} {ad:Option Addr},Rd w ad xs->(xs≠[]->∀a,ad=some a->¬X a.block)->(xs≠[]->∀a,ad=some a->¬(X a.block\/a.block=lb)):=λm j l a e=>by
  have:=KY m l e;rintro(k|k)
  ·exact j l a e k
  ·omega
 have n:∀{g:Nat} {t:TypeId} {cs:Array Value},Row w g t cs->¬X g->¬(X g\/g=lb):=λm j=>by
  have:=m.lt;rintro(k|k)
  ·exact j k
  ·omega
 exact⟨d.ok,c h.ok.vrd h.xv,c h.ok.brd h.xb,d.rt,c h.rt h.xt,d.ot,λx j=>c (h.ot x j).reads (h.xo x j),d.r1,d.r2,d.r3,n h.r1 h.x1,n h.r2 h.x2,n h.r3 h.x3⟩
theorem RunsC.of{p:PgV}{A:Option Addr}{cap:Nat}{ts:List IntsV}{fuel:Int}{X:Nat->Prop}{bt bp bf lim:Nat}{w0 W:World}(hX:∀k,X k->lim<=k)(hs:w0.heap.size<=lim)(hok:p.ok w0)(hr:Rd w0 A (Jo ts))(ho:∀x∈ts,x.ok w0)(b:Below w0.heap.size w0 W)
 (r1:Row W bt 26 #[.slice A ts.length cap]) (r2:Row W bp 25 p.cells) (r3:Row W bf 3 #[.int .i64 fuel]) (x1:¬X bt) (x2:¬X bp) (x3:¬X bf):RunsC p A cap ts fuel X bt bp bf W:=by
 have c:∀{xs:List Value} {ad:Option Addr},Rd w0 ad xs->(xs≠[]->∀a,ad=some a->¬X a.block):=λh g a e d=>by
  have i:=KY h g e;have j:=hX _ d;omega
 exact⟨hok.go b,c hok.vrd,c hok.brd,hr.go b,c hr,λx d=>(ho x d).go b,λx d=>c (ho x d).reads,r1,r2,r3,x1,x2,x3⟩
def RnX.rn (x:RnX):Rn:=⟨x.r.kind,x.r.value,Uz x.r⟩
theorem RnP.rn{p:PgV}{fuel:Int}{ts:List (List Int)}{pre:List RnX}{x:RnX}{W:World}(h:RnP p fuel ts pre x W):∃l,ts[pre.length]? =some l/\x.rn=rnZ p fuel l:=by
 obtain⟨_,⟨l,d,A,c,e⟩,_,_⟩:=h;exact⟨l,d,by unfold RnX.rn;rw[e];rfl⟩
def XB (l:List Rn):List Value:=l.flatMap λr=>r.cells.toList
theorem Afh (l:List Rn)(r:Rn):XB (l++[r])=XB l++r.cells.toList:=by simp[XB]
end Go.Proofs.YtkoikjnlpifbjaaGreat
namespace Go.Proofs.YtkoikjnlpifbjaaGreat
open Go.RowKit Go.Deep
attribute [local go_sem] Oper.semAt_some
theorem Aft (p:PgV)(hbl:p.body.length<=1000)(A:Option Addr)(cap:Nat)(ts:List IntsV)(hl:ts.length<=1000)(hn:∀x∈ts,x.l.length<=1000)(fuel:Int)(X:Nat->Prop)(bt bp bf:Nat)(w:World)(hC:RunsC p A cap ts fuel X bt bp bf w):
 Ej Tryz.prog 83 #[.pointer (some ⟨bt,0,none⟩),.pointer (some ⟨bp,0,none⟩),.pointer (some ⟨bf,0,none⟩)] RnX.enc (λ_=>False) (λlb=>KpX (λi=>X i\/i=lb)) (RnP p fuel (ts.map IntsV.l)) (λxs=>xs.length=ts.length) (λ_=>True) ts.length True w:=by
 intro lb J Jx W ar j _ hJ a9 hY h0;have al:Below w.heap.size w W:=⟨j.os,j.tape,j.output,j.size,λk hk=>j.block k hk (by simp)⟩;have s:=hC.add al ar.1;clear hC ar al j w;have aa:∀d x W1,J d W1->RnP p fuel (ts.map IntsV.l) d x W1->d.length<ts.length->YieldAt Fence.wide 0 Tryz.prog lb #[.int .i64 (x.i:Int),x.r.val] W1 λe W'=>(e=.returned (.bool true)/\J (d++[x]) W'/\KpX (λi=>X i\/i=lb) W1 W')\/(e=.returned (.bool false)/\Jx (d++[x]) W'/\KpX (λi=>X i\/i=lb) W1 W'):=hY;clear hY;generalize (λi=>X i\/i=lb)=X1 at s aa;obtain⟨N,hN⟩:∃N,N=ts.length:=⟨_,rfl⟩;have ba:(N:Int)<=1000:=by omega
 have HN:=Lh hN;have h:=Lh s;have HJ:=Lh hJ;have HY:=Lh aa;have a1:=Lh hbl;have Hn:=Lh hn;have m:=s.r1.cellv (i:=0) (v:=.slice A ts.length cap) rfl;rw[<-hN]at m;clear hN s hJ aa hbl hn hl;refine callsIn_of_wp Tryz.func83 rfl trivial ?_ rfl;simp only[Tryz.ntmps83,Lk,Lc,Lo,Nat.reduceAdd,Nat.reduceSub,Li,Lj,Lp,L5,Lm,Ll];gi_wp2_with fail
 gi_loopw [11] (λi wr=>∃(k:Nat) (d:List RnX),i=.int .i64 (k:Int)/\k<=N/\Hid (d.length=k)/\Hid (RunsC p A cap ts fuel X1 bt bp bf wr)/\J d wr) (λi _=>N-(intOf i).toNat)
 case atStart=>exact⟨0,[],by simp,Nat.zero_le _,Lh rfl,h,h0⟩
 case round=>
  clear h0 m h;obtain⟨k,d,rfl,bc,g,h,hj⟩:=hrel;by_cases a6:k<N;rotate_left
  ·obtain rfl:k=N:=by omega
   gi_wp2_with fail
   go_end0
   exact⟨⟨_,rfl⟩,.inl ⟨_,g.out.trans HN.out,hj⟩⟩
  obtain⟨x,hx⟩:∃x,ts[k]? =some x:=⟨_,Lb (by have:=HN.out;omega)⟩;obtain⟨ad,a3,am⟩:=Jt h.out.rt hx;subst a3;have o:=Lf hx;have Hx:=Lh hx;have an:wr.cell? (ad.add k)=some (.slice x.addr x.l.length x.cap):=am;have bb:(k:Int)<(N:Int):=by omega
  have y:=Lh (AlD p x.addr x.cap x.l fuel wr a1.out (Hn.out x o) h.out.ok (h.out.ot x o).reads (h.out.ot x o).all);have aj:=Lh (λ(W:World) (u:Option Addr) (m:Nat) h1 h2 h3 h4=>AkL (p:=p) (args:=x.l) (fuel:=fuel) (w:=wr) (W:=W) (A:=u) (c:=m) h.out.ok (h.out.ot x o).all h1 h2 h3 h4);have r2:=h.out.r2;have c3:=h.out.r3.cellv (i:=0) (v:=.int .i64 fuel) rfl;clear hx am o;gi_wp2_with (refine Zz rfl 25 _ rfl bp rfl 25 p.cells (0,0) _ r2 Tryz.underlying25 rfl (by kernel_rfl) ?_);refine⟨trivial,rfl,(callsIn_wide.2 y.out).mono ?_⟩;rintro e w1 ⟨u,m,rfl,ax,au,av,aw,b1⟩;have ab:=aj.out w1 u m au av aw ax;have a4:=Akm p x.l fuel;have n:((QG p x.l fuel).rv u m).evs.length<=10000:=Acl p x.l fuel;obtain⟨r,hr⟩:∃r,r=(QG p x.l fuel).rv u m:=⟨_,rfl⟩;have ay:∃l,(ts.map IntsV.l)[k]? =some l/\∃A c,r=(QG p l fuel).rv A c:=⟨x.l,by rw[L4,Hx.out];rfl,u,m,hr⟩;have a7:Value.agg ((QG p x.l fuel).rv u m).cells=.agg r.cells:=by rw[hr]
  rw[<-hr]at ab n;rw[show(#[Value.int .i64 ((QG p x.l fuel).out.getD (0,0)).1,.int .i64 ((QG p x.l fuel).out.getD (0,0)).2,.int .i64 ((QG p x.l fuel).steps:Int),.slice u (QG p x.l fuel).evs.length m]:Array Value)=r.cells from by rw[hr];rfl];have af:=Lh (h.out.kx (KpX.of_below b1));replace hj:=QI HJ.out hj b1;obtain⟨cz,ao⟩:∃c,c=Q7 p x.l.length fuel:=⟨_,rfl⟩;rw[<-ao];have ah:=Lh ab;have ai:=Lh ay;clear ay ab a4 hr a7 ax au av aw b1 ao h y aj r2 c3 an;gi_wp2_with (refine X8 _ _ _ rfl ?_);refine Stop.to ?_;obtain⟨D,hD⟩:∃D,D=w1.heap.size:=⟨_,rfl⟩;obtain⟨w3,t⟩:∃w3,w3=w1.alloc (.cells #[.int .i64 0,.int .i64 0,.int .i64 0,.slice none 0 0] 114):=⟨_,rfl⟩;have ac:Row w3 D 114 #[.int .i64 0,.int .i64 0,.int .i64 0,.slice none 0 0]:=by rw[t,hD];exact Row.new _ _ _
  have b3:Below w1.heap.size w1 w3:=by rw[t];exact(Below.refl _ _).alloc (Nat.le_refl _) _
  rw[<-t, <-hD];have ak:w1.heap.size<=D:=LD hD.symm;clear t hD;refine Zd rfl 114 _ _ rfl D r.cells rfl rfl 114 _ ac (by kernel_rfl) rfl (by simp[RunV.cells,Value.oneCell']) ?_;have ae:=ac.setRow r.cells;have b4:Below w1.heap.size w1 (w3.setRow D r.cells):=Qp b3 (ZN _ _ _) ak;generalize w3.setRow D r.cells=w4 at ae b4|-;have hP:RnP p fuel (ts.map IntsV.l) d ⟨k,r⟩ w4:=⟨g.out.symm,by rw[g.out];exact ai.out,St.go (S:=λW=>r.ok W) ah.out b4,n⟩;have z:d.length<ts.length:=by rw[g.out, <-HN.out];exact a6
  have ap:=QI HJ.out hj b4;obtain⟨fn,az,q,body,hy,hR⟩:=HY.out _ ⟨k,r⟩ _ ap hP z;have HR:=Lh hR;have ag:=Lh (af.out.kx (KpX.of_below b4));have a2:Hid ((d++[(⟨k,r⟩:RnX)]).length=k+1):=by show _=_;rw[Le,g.out];rfl
  have a8:(Instr.yield lb #[.int .i64 (k:Int),.agg r.cells]).run Tryz.prog w4=.ok (.round lb fn az q body) w4:=hy;clear hP z ap hj hR b4 ac b3 ak g ai ah n af hy;gi_wp2_with (refine Zz rfl 114 _ rfl D rfl 114 r.cells (0,0) _ ae Tryz.underlying114 rfl (by kernel_rfl) ?_);refine⟨rfl,HR.out.mono ?_⟩;clear a8 HR ae;rintro e W' (⟨rfl,hj,aq⟩|⟨rfl,a5, -⟩);rotate_left
  ·gi_wp2_with fail
   refine bodyPost_ret (results_none rfl _ _ _) rfl ?_;exact⟨⟨_,rfl⟩,.inr ⟨_,trivial,a5⟩⟩
  have a0:=Lh (ag.out.kx aq);clear ag aq;gi_wp2_with fail
  go_roundw
  case rel=>exact⟨k+1,_,by go_num,by omega,a2,a0,hj⟩
  case measure=>simp[intOf];omega
end Go.Proofs.YtkoikjnlpifbjaaGreat
