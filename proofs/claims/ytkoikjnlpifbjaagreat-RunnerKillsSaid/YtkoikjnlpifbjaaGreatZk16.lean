/- Lemmas for RunnerKillsP. -/
import Derived.Test.YtkoikjnlpifbjaaGreatZk1
import Derived.Test.YtkoikjnlpifbjaaGreatZk15
import Derived.Test.YtkoikjnlpifbjaaGreatZk5
import Derived.Test.YtkoikjnlpifbjaaGreatZk11
import Derived.Test.YtkoikjnlpifbjaaGreatZk13
import Derived.Test.YtkoikjnlpifbjaaGreatZk12
set_option linter.unusedVariables false
set_option linter.unusedSimpArgs false
set_option maxRecDepth 100000
set_option maxHeartbeats 16000000
namespace Go.Proofs.YtkoikjnlpifbjaaGreat
open Go.RowKit Go.Deep
attribute [local go_sem] Oper.semAt_some
theorem XC{w:World}{base n size m c:Nat}{e:TypeId}{A:Option Addr}{xs:List Value}(h:w.ownsRow base e size (.slice A m c) n xs):Rd w A xs:=by
 have s:xs.length=n*size:=h.1;rcases h.2 with⟨i,p⟩|⟨g,o,d,i,hb,q,hc,hm,x,y⟩
 ·have z:xs=[]:=Lt (by rw[s,p,Nat.zero_mul]);subst z;exact Rd.nil _ _
 ·injection i with i;subst i;refine λj u k=>⟨_,rfl,?_⟩
  have t:Row w g e d:=q
  exact t.from_ 0 (cs:=xs) (λj v k=>by
   rw[LG, <-Ng]
   have l:(d.toList.take (n*size))[j]? =some v:=by rw[y];exact k
   rw[LQ (by have:=(La.1 k).1;omega)]at l;exact l) j u k
theorem Y1{w:World}{base n size:Nat}{e:TypeId}{v:Value}{xs:List Value}(h:w.ownsRow base e size v n xs):∃A cap,v=.slice A n cap/\Rd w A xs/\n<=cap/\cap<=maxLen/\(A=none->cap=0)/\∀ad,A=some ad->base<=ad.block:=by
 obtain⟨A,cap,rfl⟩:=Zq h;refine⟨A,cap,rfl,XC h,?_⟩;rcases h.2 with⟨d,m⟩|⟨g,c,i,d,j,_,k,l,_⟩
 ·injection d with e3 e4 e5;subst e3 e5;exact⟨by omega,by unfold maxLen;omega,λ_=>rfl,λad e=>by cases e⟩
 ·injection d with e3 e4 e5;subst e3 e5;exact⟨k,l,λe=>(by cases e),λad e=>by cases e;exact j⟩
structure ListsFn (A:Option Addr)(n cap:Nat)(w w':World)(e:Ending):Prop where
 ex:∃bl,e=.returned (.func (.func 210) #[] #[.pointer (some ⟨bl,0,none⟩)])/\Row w' bl 23 #[.slice A n cap]/\w.heap.size<=bl/\Below w.heap.size w w'
theorem AdA (A:Option Addr)(n cap:Nat)(w:World):
 Calls Tryz.prog 193 #[.slice A n cap] w λe w'=>ListsFn A n cap w w' e:=by
 go_enter Tryz.func193,Tryz.ntmps193
 go_wp2_with (refine Qq _ _ rfl ?_)
 refine Stop.to ?_;refine Qe rfl 23 _ rfl #[.slice A n cap] rfl ?_;intro G i d g c;have h:=(Below.refl w.heap.size w).trans (c.mono d);clear c;go_wp2
 go_ret
 exact⟨G,rfl,g,d,h⟩
def chC (c:Int×Int):List Value:=[.slice none 0 0,.int .i64 c.1,.int .i64 c.2]
def chZ (ls:List (Int×List Int)):List (Int×Int):=ls.flatMap λe=>e.2.map λn=>(e.1,n)
theorem Ab1:(Tryz.prog.info? 50).map (λi=>(i.zero,i.size,i.bytes))=some (some (.agg #[.slice none 0 0,.int .i64 0,.int .i64 0]),3,40):=by kernel_rfl
theorem Adl:(Tryz.prog.info? 50).map (λi=>(i.zero,i.size))=some (some (.agg #[.slice none 0 0,.int .i64 0,.int .i64 0]),3):=by kernel_rfl
theorem AdS (but:Int)(l:List Int):(Kf but l).length<=l.length:=Ld (Ns _ _) (Aau l)
theorem Aci (lo hi but:Int):(JE lo hi but).length<=(hi+1-lo).toNat:=Agi _ _ _
theorem VV (a b:List (Int×List Int)):chZ (a++b)=chZ a++chZ b:=by simp[chZ]
theorem Xx (o:Int)(l:List Int):(chZ [(o,l)]).length=l.length:=by simp[chZ]
theorem AhM (x y:Nd):(chZ (Ku x y)).length<=100:=by
 have j:=Aci 7 11 x.tag;have k:=Aci 12 17 x.tag;have l:=Aci 18 19 x.tag;have h:=AdS x.n [0,1, -1,wrap64 (x.n+1),wrap64 (x.n-1)]
 have m:(ZI y).length<=2:=by
  unfold ZI;split
  ·exact AdS _ _
  ·simp
 simp only[Lc,Lo]at h;unfold Ku;rw[VV,VV,Le,Le];have d:∀(c:Prop) [Decidable c] (a b:List (Int×List Int)) (n:Nat),(chZ a).length<=n->(chZ b).length<=n->(chZ (if c then a else b)).length<=n:=λc _ a b n e g=>by split<;>assumption
 have e:=d (7<=x.tag/\x.tag<=11) [(1,JE 7 11 x.tag)] _ 10 (by rw[Xx];omega) (d (12<=x.tag/\x.tag<=17) [(2,JE 12 17 x.tag)] _ 10 (by rw[Xx];omega) (d (x.tag=18\/x.tag=19) [(3,JE 18 19 x.tag)] _ 10 (by rw[Xx];omega) (d (x.tag=1) [(4,Kf x.n [0,1, -1,wrap64 (x.n+1),wrap64 (x.n-1)])] _ 10 (by rw[Xx];omega) (d (x.tag=2) [(4,[wrap64 (1-x.n)])] [] 10 (by rw[Xx];simp) (by simp[chZ])))));have g:=d (x.tag=21\/x.tag=22\/x.tag=23\/x.tag=24\/x.tag=25) [(5,[0])] [] 10 (by rw[Xx];simp) (by simp[chZ]);have i:=d (x.tag=23\/x.tag=24) [(6,[0])] _ 10 (by rw[Xx];simp) (d (x.tag=25) [(7,ZI y)] [] 10 (by rw[Xx];omega) (by simp[chZ]));omega
theorem Ajy (c:Int×Int):∀u∈chC c,u.oneCell'=true:=by
 intro u d;simp only[chC,Ls,Lw,or_false]at d;rcases d with rfl|rfl|rfl<;>rfl
structure ChsR (cs:List (Int×Int))(w w':World)(e:Ending):Prop where
 ex:∃v,e=.returned v/\w'.ownsRow w.heap.size 50 3 v cs.length (cs.flatMap chC)/\Below w.heap.size w w'
def ChZ (Rb lim:Nat)(k:Nat)(o:Obj):Prop:=k=Rb\/(lim<=k/\∃cs fr,o=.cells cs 50 fr)
theorem Ak0{Rb lim L n:Nat}{W W':World}{v:Value}{xs:List Value}(h:W.ownsRow lim 50 3 v n xs)(hg:W.grownBy W' v.ownBlock):KpG (λk o=>ChZ Rb lim k o\/k=L) W W':=⟨λk o hx ho=>by
 refine(hg.block k (Lr.1 ho).1 (λe=>hx (.inl (.inr ?_)))).trans ho
 rcases h.2 with⟨rfl,_⟩|⟨g,c,cur,rfl,hb,hr,_⟩
 ·cases e
 ·injection e with e
  have e':k=g:=e
  subst e'
  rw[hr]at ho;injection ho with ho
  exact⟨hb,_,_,ho.symm⟩,hg.size⟩
theorem Ac1 (A:Option Addr)(cap:Nat)(l:List Nd)(q:Nat)(t:Tr)(w:World)(hat:At l q t)(hr:Rd w A (l.flatMap Nd.cells))(hl:l.length<=1000)(hlc:l.length<=cap)(hcm:cap<=maxLen)(ht1:1<=t.root.tag)(ht2:t.root.tag<=26)(h25:t.root.tag=25->t.kids≠[]):
 Calls Tryz.prog 153 #[.slice A l.length cap,.int .i64 (q:Int)] w λe w'=>ChsR (chZ (Ku t.root (t.flat.tail.headD ⟨0,0⟩))) w w' e:=by
 have Hp:=Lh (λW h=>AiJ A cap l q t W hat h hl hlc hcm);have Hr:=Lh hr;have b4:t.flat.length≠0:=by cases t;simp[Tr.flat]
 have a9:t.flat=t.root::t.flat.tail:=by rw[t.flat_eq];rfl
 have a2:=Lh a9;have bn:=Lh ht1;have bo:=Lh ht2
 have a1:Hid (t.root.tag=25->t.flat.tail≠[]):=λh=>by
  have:=h25 h;rw[t.flat_eq];simp only[List.tail_cons];cases hk:t.kids with
  |nil=>exact absurd hk this
  |cons k ks=>have:=UC (k::ks);intro e;rw[e]at this;simp at this
 have cb:(0:Int)<(t.flat.length:Int):=by omega
 clear hat hr hl hlc hcm ht1 ht2 h25 b4 a9;refine(callsIn_wide (n:=0)).1 ?_;refine callsIn_of_wp_marks Tryz.func153 rfl trivial ?_;simp only[Tryz.ntmps153,Lk,Lc,Lo,Nat.reduceAdd,Nat.reduceSub,Li,Lj,Lp,L5,Lm,Ll];gi_wp2_with fail
 obtain⟨z,am⟩:∃B,B=w.heap.size:=⟨_,rfl⟩;obtain⟨w1,ao⟩:∃w1,w1=w.alloc (.cells #[.slice none 0 0] 44):=⟨_,rfl⟩;have rR:Row w1 z 44 #[.slice none 0 0]:=by rw[ao,am];exact Row.new _ _ _
 have b1:Below w.heap.size w w1:=by rw[ao];exact(Below.refl _ _).alloc (Nat.le_refl _) _
 rw[<-ao, <-am];have bt:w.heap.size<=z:=LD am.symm;clear ao am;refine⟨trivial,rfl,(callsIn_wide.2 (Hp.out w1 (Hr.out.go b1))).mono ?_⟩;rintro e w2 ⟨v2,rfl,aa,b2⟩;obtain⟨A2,c2,rfl⟩:=Zq aa;have aq:Rd w2 A2 (t.flat.flatMap Nd.cells):=XC aa;have a7:∀ad,A2=some ad->z<ad.block:=λad e=>Lg rR.lt (QQ aa (by rw[e];rfl))
 replace rR:=rR.below b2 rR.lt;have bb:=b1.trans (b2.mono b1.size);have ce:=rR.lt;clear b1 b2 aa Hp;gi_wp2_with fail
 refine⟨trivial,rfl,(callsIn_wide.2 (AdA A2 t.flat.length c2 w2)).mono ?_⟩;rintro e w3 ⟨bl,rfl,rl,gl,b3⟩;replace rR:=rR.below b3 rR.lt;have bu:bl≠z:=by omega
 replace bb:=bb.trans (b3.mono bb.size)
 have hC:ListsC A2 c2 t.flat.length bl z t.root t.flat.tail (ChZ z w3.heap.size) w3:=⟨rl,by rw[<-a2.out];exact aq.go b3,by rw[<-a2.out],λk o h1 s h=>by
  rcases h with h|⟨h,_⟩
  ·exact s h
  ·omega,bu,λad e=>by have:=a7 ad e;omega,λk cs tt fr h1 s h=>by
  rcases h with h|⟨_,bq,br,h⟩
  ·have:=rR.lt;omega
  ·injection h with _ h;subst h;rcases s with s|s|s|s<;>exact absurd s (by decide),a1.out⟩
 have ax:=Lh (Ae5 A2 c2 t.flat.length bl z t.root t.flat.tail (ChZ z w3.heap.size) w3 hC bn.out bo.out);have av:=Lh bb;have a0:=rR;clear hC rl gl b3 bb aq a7 rR Hr a1;gi_wp2_with fail
 obtain⟨ah,af⟩:∃ah,ah=Ku t.root (t.flat.tail.headD ⟨0,0⟩):=⟨_,rfl⟩;have a8:(chZ ah).length<=100:=by rw[af];exact AhM _ _
 rw[<-af]at ax;have aw:=Lh af;have bk:=Lh a8;obtain⟨d,ae⟩:∃d,d=w3.heap.size:=⟨_,rfl⟩;have ap:=Lh ae;have bs:z<d:=by rw[ae];exact a0.lt
 have al:w.heap.size<=d:=by rw[ae];exact av.out.size
 rw[<-ae]at ax;have bi:Hid (∃v,Row w3 z 44 #[v]/\w3.ownsRow d 50 3 v (chZ (([]:List LsX).map LsX.f)).length ((chZ (([]:List LsX).map LsX.f)).flatMap chC)/\Below w.heap.size w w3/\d<=w3.heap.size):=⟨_,a0,World.ownsRow_nil _ _ _ _,av.out,LD ae⟩;clear af a8 a0 av ae
 refine Uo (gf:=210) (lb:=#[.pointer (some ⟨bl,0,none⟩)]) rfl (enters_of Tryz.func210 (by kernel_rfl) rfl) ax.out (λr h=>h.elim)
  (λh k=>h.trans k) (λV o o' ho hc=>⟨λi p hx hp=>by rw[World.putObj_heap_other (λe=>hx (.inr e))];exact hp,by simp⟩) (World.grownBy.refl _ _) (λ_=>rfl)
  (λg V=>∃v,Row V z 44 #[v]/\V.ownsRow d 50 3 v (chZ (g.map LsX.f)).length ((chZ (g.map LsX.f)).flatMap chC)/\Below w.heap.size w V/\d<=V.heap.size) (λ_ _ _=>False) (.inr λ_ _ _ h=>h) ?hI ?hIx bi.out
  (λg x a' V=>a'={ tmps:=#[.slice A l.length cap,.int .i64 (q:Int),undef,undef,.slice none 0 0,.pointer (some ⟨z,0,none⟩),.slice A2 t.flat.length c2,.int .i64 x.op,.slice x.A x.l.length x.cap,undef,undef,.slice A l.length cap,.int .i64 (q:Int),.slice A2 t.flat.length c2,.slice A2 t.flat.length c2,.int .i64 (t.flat.length:Int),.bool true,.slice A2 t.flat.length c2,.func (.func 210) #[] #[.pointer (some ⟨bl,0,none⟩)],.int .i64 x.op,.slice x.A x.l.length x.cap,undef,undef,undef,undef,undef,undef,undef,undef,undef,undef,undef,undef,undef,undef],defers:=[] }/\LsP ah g x V) ?hAx ?assign ?body ?done ?stop
 case hI=>
  rintro g X Y row ⟨v,h1,s,h3,h4⟩ hg hr
  have ar:∀r,row=some r->d<=r/\v.ownBlock≠some r:=λr e=>by
   rcases hr r e with h|⟨h,o,ho,hc⟩
   ·exact h.elim
   ·exact⟨by have:=ap.out;omega,Jd s ho hc⟩
  refine⟨v,h1.abide hg hr,s.kept hg ?_,h3.grown hg h3.size (λk e=>by have:=(ar k e).1;omega),Ld h4 hg.size⟩;cases row with
  |none=>cases v.ownBlock<;>simp
  |some r=>exact .inr (ar r rfl).2
 case hIx=>exact λ_ _ _ _ _ h _ _=>h
 case hAx=>
  rintro g x a' _ V V' row ⟨h1,s,h3⟩ hg hr;refine⟨h1,⟨s.rd.grown hg (λi e=>?_),s.nil,λa e=>?_⟩,h3⟩
  ·rcases hr i e with h|⟨h,o⟩
   ·exact h.elim
   ·exact o
  ·obtain⟨cs,ac⟩:=s.ty a e;exact⟨cs,ac.abide hg hr⟩
 case assign=>
  rintro l3 g x V K hI hP hK;have HK:=Lh hK;have HI:=Lh hI;have HP:=Lh hP;clear hK hI hP;unfold LsX.enc;gi_wp2_with fail
  exact HK.out _ _ (KeepsFrom.refl _ _) (KpG.refl _ _) HI.out ⟨rfl,HP.out⟩
 case stop=>exact λD c g W _ _ h _=>h.elim
 case body=>
  rintro l3 g ⟨op,XA,xc,xl⟩ a' V bx aj ⟨v,h1,s,h3,h4⟩ ⟨rfl,az,cd,ag⟩ ba
  have cc:(chZ (g.map LsX.f)).length+xl.length<=100:=by
   have:=bk.out;rw[<-ag]at this;simp only[chZ,L6,L8,Le,LsX.f,Lu]at this|-;omega
  have hZ:∀a,XA=some a->∃cs,Row V a.block 3 cs/\¬(ChZ z d a.block (.cells cs 3 (0,0))\/a.block=w3.heap.size+1):=λa e=>by
   obtain⟨cs,ac⟩:=az.ty a e;refine⟨cs,ac,λh=>?_⟩;have ab:V.heap[a.block]? =some (.cells cs 3 (0,0)):=ac;rcases h with(h|⟨_,bq,br,h⟩)|h
   ·rw[h,show V.heap[z]? =some (.cells #[v] 44 (0,0))from h1]at ab;injection ab with ab;injection ab with _ ab;exact absurd ab (by decide)
   ·injection h with _ h;exact absurd h (by decide)
   ·obtain⟨r,hr⟩:=aj;rw[h, <-bx,hr]at ab;cases ab
  have HZ:=Lh hZ;have a5:=Lh az;have bm:=Lh ag;clear hZ az ag ba aj;obtain⟨i0,bw,b6,b7,b8⟩:=info_parts Ab1;have ch:(xl.length:Int)<=100:=by omega
  gi_wp2_with fail
  gi_loopw [23] (λi wr=>∃(k:Nat) (v:Value),i=.int .i64 (k:Int)/\k<=xl.length/\Row wr z 44 #[v]/\wr.ownsRow d 50 3 v (chZ (g.map LsX.f)++(xl.take k).map λn=>(op,n)).length ((chZ (g.map LsX.f)++(xl.take k).map λn=>(op,n)).flatMap chC)/\Below w.heap.size w wr/\d<=wr.heap.size/\KeepsFrom w3.heap.size V wr/\KpG (λk o=>ChZ z d k o\/k=w3.heap.size+1) V wr) (λi _=>xl.length-(intOf i).toNat)
  case atStart=>exact⟨0,v,rfl,Nat.zero_le _,h1,by simpa using s,h3,h4,KeepsFrom.refl _ _,KpG.refl _ _⟩
  case round=>
   clear h1 s h3 h4;obtain⟨k,v,rfl,hk,h1,s,h3,h4,an,ai⟩:=hrel;by_cases bz:k<xl.length
   ·obtain⟨y,hy⟩:∃y,xl[k]? =some y:=⟨_,Lb bz⟩;obtain⟨xa,bd,_⟩:=Zg a5.out.rd hy
    have bc:Rd wr XA (Qi xl):=λj u hj=>by
     obtain⟨a,e,hc⟩:=a5.out.rd j u hj;obtain⟨cs,ac,b5⟩:=HZ.out a e;exact⟨a,e,(World.cell?_of_block (by rw[JG];exact(ai.row ac b5).trans ac.symm)).trans hc⟩
    obtain⟨xb,bf,ay⟩:=Zg bc hy
    obtain rfl:xa=xb:=by
     have be:XA=some xa:=bd;have au:XA=some xb:=bf;rw[be]at au;injection au
    clear bf;subst bd;have Hy:=Lh hy;have ca:(k:Int)<(xl.length:Int):=by omega
    have hc:=h1.cellv (i:=0) (v:=v) rfl;have hf:=h1.free 0;have bg:(xl.take (k+1)).map (λn=>(op,n))=(xl.take k).map (λn=>(op,n))++[(op,y)]:=by rw[L9,hy];simp
    have b0:(chZ (g.map LsX.f)++(xl.take k).map λn=>(op,n)).length<=100:=by
     rw[Le,Lu,L1];omega
    have a6:=Lh bg;generalize ac:chZ (g.map LsX.f)++(xl.take k).map (λn=>(op,n))=cs at s b0;have bj:=Lh ac;clear ac;have HA:=Lh (s.alloc (.cells #[.slice none 0 0,.int .i64 op,.int .i64 y] 50));have H1:=Lh h1;have H2:=Lh s;have H3:=Lh h3;have H4:=Lh h4;have a3:=Lh an;have a4:=Lh ai;have bv:(wr.alloc (.cells #[.slice none 0 0,.int .i64 op,.int .i64 y] 50)).cell? ⟨z,0,none⟩=some v:=(h1.alloc _).cellv (i:=0) rfl;have Hc:=Lh ay;clear bc hy bg h1 s h3 h4 an ai;gi_wp2_with (gi_at_builtin;refine wpListIn_append_own_at _ rfl (.tmp 27) (.tmp 31) 44 rfl d 50 i0 (.agg #[.slice none 0 0,.int .i64 0,.int .i64 0]) 3 40 Tryz.underlying44 bw b6 b7 b8 rfl (by decide) v _ _ rfl HA.out ⟨wr.heap.size,0,none⟩ 1 1 (chC (op,y)) rfl rfl (Z9 _ _ _) (Ajy _) (by unfold maxLen;omega) (by omega) (by have:=H4.out;simp;omega) ?_);intro v' W9 aa hg _ hat;have r9:=(H1.out.alloc (.cells #[.slice none 0 0,.int .i64 op,.int .i64 y] 50)).grown hg (Qz HA.out (H1.out.alloc _) (by decide));have b9:=QL (H3.out.alloc H3.out.size (.cells #[.slice none 0 0,.int .i64 op,.int .i64 y] 50)) HA.out hg (by have:=H3.out.size;simp;omega) al;have k9:KeepsFrom w3.heap.size V W9:=a3.out.trans ((KeepsFrom.alloc _ wr (.cells #[.slice none 0 0,.int .i64 op,.int .i64 y] 50)).trans (KeepsFrom.of_own HA.out hg));have p9:KpG (λk o=>ChZ z d k o\/k=w3.heap.size+1) V W9:=a4.out.trans ((KpG.of_below ((Below.refl _ wr).alloc (Nat.le_refl _) _)).trans (Ak0 HA.out hg));have s9:d<=W9.heap.size:=by have e1:=hg.size;have e2:=H4.out;rw[World.size_alloc]at e1;omega
    obtain⟨A',m',c',rfl⟩:∃A m c,v'=.slice A m c:=ZC aa;have cf:=r9.cellv (i:=0) (v:=v) rfl;have cg:=r9.free 0;have nG:=Qz aa r9 (by decide);have o4:=Zl W9 z 0 (.slice A' m' c');have ak:=Qx aa o4 nG;have r4:=r9.set 0 (.slice A' m' c')
    have HF:Hid (Row (W9.setCell ⟨z,0,none⟩ (.slice A' m' c')) z 44 #[.slice A' m' c']/\(W9.setCell ⟨z,0,none⟩ (.slice A' m' c')).ownsRow d 50 3 (.slice A' m' c') (chZ (g.map LsX.f)++(xl.take (k+1)).map λn=>(op,n)).length ((chZ (g.map LsX.f)++(xl.take (k+1)).map λn=>(op,n)).flatMap chC)/\Below w.heap.size w (W9.setCell ⟨z,0,none⟩ (.slice A' m' c'))/\d<=(W9.setCell ⟨z,0,none⟩ (.slice A' m' c')).heap.size/\KeepsFrom w3.heap.size V (W9.setCell ⟨z,0,none⟩ (.slice A' m' c'))/\KpG (λk o=>ChZ z d k o\/k=w3.heap.size+1) V (W9.setCell ⟨z,0,none⟩ (.slice A' m' c'))):=by
     refine⟨r4,?_,Qp b9 o4 bt,Ld s9 (LD o4.size.symm),k9.trans (KeepsFrom.of_only r9 o4),p9.trans ⟨λi o hx ho=>by rw[o4.block i (λe=>hx (.inl (.inl e)))];exact ho,LD o4.size.symm⟩⟩;rw[a6.out, <-Ly,bj.out,Le,L6,List.flatMap_singleton];exact ak
    clear aa hg hat r9 b9 k9 p9 nG o4 ak r4 hc hf bv HA H1 H2 H3 H4 a3 a4 a6;gi_wp2_with fail
    go_roundw
    case rel=>exact⟨k+1,_,by go_num,by omega,HF.out⟩
    case measure=>simp[intOf];omega
   ·obtain rfl:k=xl.length:=by omega
    rw[LT]at s
    have HF:Hid (KeepsFrom w3.heap.size V wr/\KpG (λk o=>ChZ z d k o\/k=w3.heap.size+1) V wr/\∃v,Row wr z 44 #[v]/\wr.ownsRow d 50 3 v (chZ ((g++[(⟨op,XA,xc,xl⟩:LsX)]).map LsX.f)).length ((chZ ((g++[(⟨op,XA,xc,xl⟩:LsX)]).map LsX.f)).flatMap chC)/\Below w.heap.size w wr/\d<=wr.heap.size):=⟨an,ai,v,h1,by
     have e:chZ ((g++[(⟨op,XA,xc,xl⟩:LsX)]).map LsX.f)=chZ (g.map LsX.f)++xl.map λn=>(op,n):=by rw[LN,VV];simp[chZ,LsX.f]
     rw[e];exact s,h3,h4⟩
    clear h1 s h3 h4 an ai;gi_wp2_with fail
    exact HF.out
 case done=>
  rintro D ys W hD bh ⟨v,h1,s,h3,h4⟩ hK;obtain⟨A9,c9,rfl⟩:=Zq s;have hc:=h1.cellv (i:=0) rfl;have HK:=Lh hK;have H2:=Lh s;have H3:=Lh h3;have bp:=Lh bh;clear hK h1 s h3 bh;gi_wp2;refine⟨by simp,.inl ⟨_,_,rfl,run_takeDeferred HK.out,?_⟩⟩;refine⟨_,results_tmp rfl _ _ _,_,rfl,?_,H3.out.grown (grownBy_putObj' _ _ _) H3.out.size (λk e=>by cases e;have:=ap.out;omega)⟩;rw[<-aw.out, <-bp.out];exact QR ((H2.out.kept (grownBy_putObj' _ _ _) (.inr (Jd H2.out HK.out rfl)))) al
end Go.Proofs.YtkoikjnlpifbjaaGreat
namespace Go.Proofs.YtkoikjnlpifbjaaGreat
open Go.RowKit
def Y9 (x y:Nd)(op:Int):List Int:=(Acv x).filter (isC x y op)
def Vt (op:Int)(l:List Int):List (Int×Int):=l.map λn=>(op,n)
theorem AaK (x y:Nd):Jm x y=Vt 1 (Y9 x y 1)++(Vt 2 (Y9 x y 2)++(Vt 3 (Y9 x y 3)++(Vt 4 (Y9 x y 4)++(Vt 5 (Y9 x y 5)++(Vt 6 (Y9 x y 6)++Vt 7 (Y9 x y 7)))))):=by
 unfold Jm;rw[show((List.range 7).map λi:Nat=>(i:Int)+1)=[1,2,3,4,5,6,7]from by decide];simp only[L8,List.flatMap_nil,LR];rfl
theorem Uh{x y:Nd}{op:Int}{L:List Int}(h2:x.tag=2->x.n=0\/x.n=1)(hr:J9 L)(hm:∀n,n∈L<->isC x y op n=true):Y9 x y op=L:=
 Vn (JX _ (Xs _)) hr λn=>by
  unfold Y9
  rw[Nl,hm]
  exact⟨λh=>h.2,λh=>⟨Abo h h2,h⟩⟩
theorem Vo (lo hi but:Int):J9 (JE lo hi but):=by
 refine JX _ (Aae ?_);rw[N8];exact List.pairwise_lt_range.imp λ{i j} h=>by show lo+(i:Int)<lo+(j:Int);omega
theorem Aaj{lo hi but n:Int}:n∈JE lo hi but<->lo<=n/\n<=hi/\n≠but:=by
 unfold JE UR;rw[Nl,LK];constructor
 ·rintro⟨⟨i,hi,rfl⟩,h⟩;rw[Ny]at hi;have c:lo+(i:Int)≠but:=by simpa using h
  exact⟨by omega,by omega,c⟩
 ·rintro⟨e,g,d⟩;refine⟨⟨(n-lo).toNat,Ny.2 (by omega),by omega⟩,by simpa using d⟩
theorem E3 (but:Int)(l:List Int):J9 (Kf but l):=JX _ (Xs _)
theorem AbB{but n:Int}{l:List Int}:n∈Kf but l<->n∈l/\n≠but:=by
 unfold Kf;rw[Nl,Y7];simp
theorem Alp{x y:Nd}(h2:x.tag=2->x.n=0\/x.n=1):Y9 x y 1=if 7<=x.tag/\x.tag<=11 then JE 7 11 x.tag else []:=by
 refine Uh h2 (by split;exact Vo _ _ _;trivial) λn=>?_
 show _<->decide _=true;rw[decide_eq_true_eq];split
 ·rw[Aaj];omega
 ·simp;omega
theorem Alq{x y:Nd}(h2:x.tag=2->x.n=0\/x.n=1):Y9 x y 2=if 12<=x.tag/\x.tag<=17 then JE 12 17 x.tag else []:=by
 refine Uh h2 (by split;exact Vo _ _ _;trivial) λn=>?_
 show _<->decide _=true;rw[decide_eq_true_eq];split
 ·rw[Aaj];omega
 ·simp;omega
theorem Alr{x y:Nd}(h2:x.tag=2->x.n=0\/x.n=1):Y9 x y 3=if x.tag=18\/x.tag=19 then JE 18 19 x.tag else []:=by
 refine Uh h2 (by split;exact Vo _ _ _;trivial) λn=>?_
 show _<->decide _=true;rw[decide_eq_true_eq];split
 ·rw[Aaj];omega
 ·simp;omega
theorem Als{x y:Nd}(h2:x.tag=2->x.n=0\/x.n=1):Y9 x y 4=if x.tag=1 then Kf x.n [0,1, -1,wrap64 (x.n+1),wrap64 (x.n-1)]else if x.tag=2 then [wrap64 (1-x.n)]else []:=by
 refine Uh h2 (by split;exact E3 _ _;split<;>trivial) λn=>?_
 show _<->decide _=true;rw[decide_eq_true_eq];split
 ·rw[AbB];simp only[Ls,Lw,or_false];omega
 ·split
  ·simp only[Ls,Lw,or_false];omega
  ·simp only[Lw,false_iff];omega
theorem Alt{x y:Nd}(h2:x.tag=2->x.n=0\/x.n=1):Y9 x y 5=if x.tag=21\/x.tag=22\/x.tag=23\/x.tag=24\/x.tag=25 then [0]else []:=by
 refine Uh h2 (by split<;>trivial) λn=>?_
 show _<->decide _=true;rw[decide_eq_true_eq];split
 ·simp only[Ls,Lw,or_false];omega
 ·simp only[Lw,false_iff];omega
theorem Alu{x y:Nd}(h2:x.tag=2->x.n=0\/x.n=1):Y9 x y 6=if x.tag=23\/x.tag=24 then [0]else []:=by
 refine Uh h2 (by split<;>trivial) λn=>?_
 show _<->decide _=true;rw[decide_eq_true_eq];split
 ·simp only[Ls,Lw,or_false];omega
 ·simp only[Lw,false_iff];omega
theorem Alv{x y:Nd}(h2:x.tag=2->x.n=0\/x.n=1):Y9 x y 7=if x.tag=25 then ZI y else []:=by
 have c:J9 (ZI y):=by
  unfold ZI;split
  ·exact E3 _ _
  ·exact⟨by omega,trivial⟩
 refine Uh h2 (by split;exact c;trivial) λn=>?_
 show _<->decide _=true;rw[decide_eq_true_eq];split
 ·unfold ZI;split
  ·rw[AbB];simp only[Ls,Lw,or_false];omega
  ·simp only[Ls,Lw,or_false];omega
 ·simp only[Lw,false_iff];omega
theorem AhN (o:Int)(l:List Int):chZ [(o,l)]=Vt o l:=by simp[chZ,Vt]
theorem AjA (c:Prop)[Decidable c](a b:List (Int×List Int)):chZ (if c then a else b)=if c then chZ a else chZ b:=by split<;>rfl
theorem Ai1 (c:Prop)[Decidable c](o:Int)(a b:List Int):Vt o (if c then a else b)=if c then Vt o a else Vt o b:=by split<;>rfl
theorem Ai2 (o:Int):Vt o []=[]:=rfl
theorem EX{x y:Nd}(h2:x.tag=2->x.n=0\/x.n=1):chZ (Ku x y)=Jm x y:=by
 rw[AaK,Alp h2,Alq h2,Alr h2,Als h2,Alt h2,Alu h2,Alv h2];unfold Ku;have k:chZ []=[]:=rfl;simp only[VV,AjA,AhN,Ai1,Ai2,k];by_cases j:x.tag=25
 ·have e:¬(7<=x.tag/\x.tag<=11):=by omega
  have d:¬(12<=x.tag/\x.tag<=17):=by omega
  have c:¬(x.tag=18\/x.tag=19):=by omega
  have g:¬(x.tag=1):=by omega
  have h:¬(x.tag=2):=by omega
  have i:¬(x.tag=23\/x.tag=24):=by omega
  rw[if_neg e,if_neg d,if_neg c,if_neg g,if_neg h,if_neg i,if_pos j,if_neg e,if_neg d,if_neg c,if_neg i];simp
 ·rw[if_neg j];by_cases e:7<=x.tag/\x.tag<=11
  ·have d:¬(12<=x.tag/\x.tag<=17):=by omega
   have c:¬(x.tag=18\/x.tag=19):=by omega
   have g:¬(x.tag=1):=by omega
   have h:¬(x.tag=2):=by omega
   simp only[if_pos e,if_neg d,if_neg c,if_neg g,if_neg h];simp
  by_cases d:12<=x.tag/\x.tag<=17
  ·have c:¬(x.tag=18\/x.tag=19):=by omega
   have g:¬(x.tag=1):=by omega
   have h:¬(x.tag=2):=by omega
   simp only[if_neg e,if_pos d,if_neg c,if_neg g,if_neg h];simp
  by_cases c:x.tag=18\/x.tag=19
  ·have g:¬(x.tag=1):=by omega
   have h:¬(x.tag=2):=by omega
   simp only[if_neg e,if_neg d,if_pos c,if_neg g,if_neg h];simp
  simp only[if_neg e,if_neg d,if_neg c];simp
theorem AlB{x y z:Nd}(h:x.tag≠25)(op n:Int):isC x y op n=isC x z op n:=by
 unfold isC;have e:decide (x.tag=25/\(n=0\/n=1)/\¬(y.tag=1/\y.n=n))=decide (x.tag=25/\(n=0\/n=1)/\¬(z.tag=1/\z.n=n)):=by simp[h]
 rw[e]
theorem AeK{x y z:Nd}(h:x.tag≠25):Jm x y=Jm x z:=by
 unfold Jm;have e:∀c,isC x y c=isC x z c:=λc=>funext λn=>AlB h c n
 simp only[e]
theorem Ai3{x:Nd}(h:¬Qv x<0):1<=x.tag/\x.tag<=26:=by
 by_cases k:1<=x.tag/\x.tag<=26
 ·exact k
 ·exact absurd (Aa0 (t:=x.tag) (n:=x.n) k) (λe=>h (by have:Qv x= -1:=e;omega))
theorem Aks{x:Nd}(h:¬Qv x<0)(h2:x.tag=2):x.n=0\/x.n=1:=by
 obtain⟨t,n⟩:=x;simp only at h2;subst h2;unfold Qv at h;simp only[Q9]at h;by_cases k:n<0\/1<n
 ·exfalso;apply h;simp;omega
 ·show n=0\/n=1;omega
theorem Aa1{x:Nd}(h:¬Qv x<0)(h2:x.tag=25):Qv x=1:=by
 obtain⟨t,n⟩:=x;simp only at h2;subst h2;unfold Qv at h|-;simp only[Q9]at h|-;by_cases k:n<0\/0<n
 ·exfalso;apply h;simp;omega
 ·simp;omega
theorem At.second{l:List Nd}{q:Nat}{t:Tr}(h:At l q t)(hk:t.kids≠[]):Vi l (q+1)=t.flat.tail.headD ⟨0,0⟩:=by
 obtain⟨g,e⟩:=h.here;have c:=t.flat_eq
 have d:QM t.kids≠[]:=by
  cases hk2:t.kids with
  |nil=>exact absurd hk2 hk
  |cons k ks=>have:=UC (k::ks);intro e;rw[e]at this;simp at this
 have i:l[q+1]? =(l.drop q)[1]? :=by rw[Nn]
 unfold Vi;rw[i,e,c];cases hf:QM t.kids with
 |nil=>exact absurd hf d
 |cons y ys=>simp
theorem Ag0{l:List Nd}{q:Nat}{t:Tr}(h:At l q t):Vi l q=t.root:=by unfold Vi;rw[h.root];rfl
theorem Ev{l:List Nd}{q:Nat}{t:Tr}(h:At l q t)(ha:¬Qv t.root<0):chZ (Ku t.root (t.flat.tail.headD ⟨0,0⟩))=Ja l q:=by
 rw[EX (Aks ha)];unfold Ja;rw[Ag0 h];by_cases c:t.root.tag=25
 ·have g:t.kids≠[]:=λe=>by
    have d:=h.fits.arity;rw[Aa1 ha c,e]at d;simp at d
  rw[h.second g]
 ·exact AeK c
theorem Ail{l:List Nd}{q:Nat}{t:Tr}(h:At l q t)(ha:¬Qv t.root<0)(h25:t.root.tag=25):t.kids≠[]:=λe=>by
 have c:=h.fits.arity;rw[Aa1 ha h25,e]at c;simp at c
end Go.Proofs.YtkoikjnlpifbjaaGreat
namespace Go.Proofs.YtkoikjnlpifbjaaGreat
open Go.RowKit Go.Deep
open Classical in
noncomputable def inP (p:PgV)(d:Dl):Bool:=decide (∃t,Fine p t/\d∈Ze p.body t)
open Classical in
theorem Aig{p:PgV}{t:Tr}(h:Fine p t)(d:Dl):inP p d=true<->d∈Ze p.body t:=by
 unfold inP;rw[decide_eq_true_eq];exact⟨λ⟨u,hu,c⟩=>by rwa[h.good.whole.uniq hu.good.whole],λc=>⟨t,h,c⟩⟩
def Yb (l:List DlV):List Value:=l.flatMap λx=>x.cells.toList
theorem AfT{W:World}{A:Option Addr}{l:List DlV}(hr:Rd W A (Yb l)){k:Nat}{x:DlV}(hx:l[k]? =some x):∃ad,A=some ad/\∀(j:Nat) (u:Value),x.cells.toList[j]? =some u->W.cell? ((ad.add (k*3)).add j)=some u:=
 KW (c:=λx:DlV=>x.cells.toList) (sz:=3) (λ_=>rfl) (by decide) hr hx
instance St.dlok_all{l:List DlV}:St (λW=>∀x∈l,DlOk W x):=⟨λh b x hx=>(h x hx).go b⟩
def Alj (l:List DlV)(d:Dl)(e:Ending):Prop:=∃r:Int,e=.returned (.int .i64 r)/\(0<=r<->d∈l.map λx=>x.d)
theorem Add (A:Option Addr)(cap:Nat)(l:List DlV)(y:DlV)(w:World)(hr:Rd w A (Yb l))(hl:l.length<=1000000)(hok:∀x∈l,DlOk w x)(hy:DlOk w y)(hrise:YI (l.map λx=>x.d)):
 Calls Tryz.prog 36 #[.slice A l.length cap,.agg y.cells] w λe w'=>Alj l y.d e/\Below w.heap.size w w':=by
 have ap:(l.length:Int)<=1000000:=by omega
 have n:=Lh hrise;clear hl hrise;go_enter Tryz.func36,Tryz.ntmps36
 go_wp2_with (refine Qq _ _ rfl ?_)
 refine Stop.to ?_;refine Qe rfl 50 _ rfl y.cells rfl ?_;intro G Gw Gh Gr Gb;have z:=(Below.refl w.heap.size w).trans (Gb.mono Gh);obtain⟨S,g⟩:∃S,S=(λW=>(Row W G 50 y.cells/\Rd W A (Yb l))/\((∀x∈l,DlOk W x)/\(∀x∈[y],DlOk W x))/\Below w.heap.size w W):=⟨_,rfl⟩;have aw:St S:=by rw[g];infer_instance
 have T0:Hid (∀W,S W->Row W G 50 y.cells):=by show ∀W,_;rw[g];exact λW h=>h.1.1
 have T1:Hid (∀W,S W->Rd W A (Yb l)):=by show ∀W,_;rw[g];exact λW h=>h.1.2
 have T2:Hid (∀W,S W->∀x∈l,DlOk W x):=by show ∀W,_;rw[g];exact λW h=>h.2.1.1
 have T3:Hid (∀W,S W->DlOk W y):=by show ∀W,_;rw[g];exact λW h=>h.2.1.2 y (by simp)
 have T4:Hid (∀W,S W->Below w.heap.size w W):=by show ∀W,_;rw[g];exact λW h=>h.2.2
 have o:S Gw:=by rw[g];exact⟨⟨Gr,hr.go z⟩,⟨λx p=>(hok x p).go z,λx p=>by rw[Lv.1 p];exact hy.go z⟩,z⟩
 clear g Gr Gb Gh z hr hok hy;go_wp2_with fail
 go_step3
 go_wp2_with fail
 go_step3
 go_wp2_with fail
 go_loopw [5,6,7] (λa b f wr=>∃lo hi:Nat,a=.int .i64 (lo:Int)/\b=.int .i64 (hi:Int)/\f=.int .i64 (-1)/\lo<=hi/\hi<=l.length/\Hid (∀i:Nat,(l.map λx=>x.d)[i]? =some y.d->lo<=i/\i<hi)/\S wr) (λa b _ _=>(intOf b-intOf a).toNat)
 case atStart=>exact⟨0,l.length,rfl,rfl,rfl,Nat.zero_le _,Nat.le_refl _,Lh (λi hi=>⟨Nat.zero_le _,by have:=(La.1 hi).1;simpa using this⟩),o⟩
 case round=>
  clear o;obtain⟨lo,hi,rfl,rfl,rfl,aq,aj,s,o⟩:=hrel;by_cases ac:lo<hi;rotate_left
  ·have ao:¬((lo:Int)<(hi:Int)):=by omega
   have ah:Hid (y.d∉l.map λx=>x.d):=λhm=>by
    obtain⟨i,k⟩:=List.getElem?_of_mem hm;have:=s.out i k;omega
   clear ac;go_wp2_with fail
   try rw[Exit.noGoto_ret]
   go_ret
   exact⟨⟨-1,rfl,by simp;exact λx p e=>ah.out (LK.2 ⟨x,p,e⟩)⟩,T4.out _ o⟩
  obtain⟨d,hd⟩:∃d:Nat,d=(hi-lo) / 2:=⟨_,rfl⟩;have an:((hi:Int)-(lo:Int)) / 2=(d:Int):=by omega
  obtain⟨m,hm⟩:∃m:Nat,m=lo+d:=⟨_,rfl⟩;have au:(lo:Int)+(d:Int)=(m:Int):=by omega
  have ae:lo<=m/\m<hi:=by omega
  obtain⟨x,p⟩:∃x,l[m]? =some x:=⟨_,Lb (by omega)⟩;obtain⟨ad,aa,_⟩:=AfT (T1.out _ o) p
  have Hc:Hid (∀W,S W->∀(j:Nat) (u:Value),x.cells.toList[j]? =some u->W.cell? ((ad.add (m*3)).add j)=some u):=λW h=>by
   obtain⟨am,e1,e2⟩:=AfT (T1.out W h) p;rw[aa]at e1;injection e1 with e1;subst e1;exact e2
  have Hx:=Lh p;have ak:(lo:Int)<(hi:Int):=by omega
  have av:0<=(hi:Int)-(lo:Int):=by omega
  have al:(m:Int)<(l.length:Int):=by omega
  have v:=Lh (Lf p);clear hd hm ac p;subst aa;go_wp2_with fail
  refine JC S (by kernel_rfl) (by kernel_rfl) (St.drew o) ?_;clear o
  iterate 3 (refine Qg rfl ?_ (λW t=>?_) ?_;rotate_left;(focus(go_simp;exact rfl));simp only[Act.put,Qa,Qb,Qc])
  (refine Yf rfl 50 _ rfl ((ad.add (m*3))) rfl x.cells.toList _ Hc.out Tryz.underlying50 rfl (by kernel_rfl) ?_;simp only[Act.put,Qa,Qb,Qc]);(refine Zp rfl 50 _ rfl (G) rfl 50 _ _ (λW t=>T0.out W t) Tryz.underlying50 rfl (by kernel_rfl) ?_;simp only[Act.put,Qa,Qb,Qc]);(refine Q8 rfl 55 _ (λW=>by(go_simp;try rfl)) (.int .i64 (KU x.d y.d)) (λW t=>AgC x y W (T2.out W t x v.out) (T3.out W t)) ?_;simp only[Act.put,Qa,Qb,Qc])
  (refine Qg rfl ?_ (λW t=>?_) ?_;rotate_left;(focus(go_simp;exact rfl));simp only[Act.put,Qa,Qb,Qc]);refine Q4 λW o=>?_
  have ab:=AjC x.d y.d;have Hm:Hid ((l.map λx=>x.d)[m]? =some x.d):=Lh (by simp[Hx.out]);obtain⟨c,hc⟩:∃c,c=KU x.d y.d:=⟨_,rfl⟩;have q:=Lh hc;rw[<-hc]at ab;rw[<-hc];clear hc;rcases ab with rfl|rfl|rfl
  ·have ag:=Lh (Akk n.out Hm.out (d:=y.d) (by have:=q.out;omega));have ar:(m:Int)<1000000:=by omega
   go_wp2_with fail
   refine⟨⟨m+1,hi,by simp,rfl,rfl,ae.2,aj,Lh (λi k=>⟨ag.out i k,(s.out i k).2⟩),o⟩,?_⟩;simp only[intOf];omega
  ·have ai:x.d=y.d:=cmpD_eq.1 q.out.symm;go_wp2_with fail
   try rw[Exit.noGoto_ret]
   go_ret
   exact⟨⟨m,rfl,by simp only[Int.natCast_nonneg,true_iff];rw[<-ai];exact Lf Hm.out⟩,T4.out _ o⟩
  ·have af:=Lh (Akj n.out Hm.out (d:=y.d) (by have:=q.out;omega));go_wp2_with fail
   refine⟨⟨lo,m,rfl,rfl,rfl,ae.1,by omega,Lh (λi k=>⟨(s.out i k).1,af.out i k⟩),o⟩,?_⟩;simp only[intOf];omega
end Go.Proofs.YtkoikjnlpifbjaaGreat
