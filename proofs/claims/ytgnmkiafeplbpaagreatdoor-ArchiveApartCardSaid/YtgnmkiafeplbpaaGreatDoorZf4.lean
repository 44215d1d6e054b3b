/- Lemmas for ArAll. -/
import Derived.Test.YtgnmkiafeplbpaaGreatDoorZf1
import Derived.Test.YtgnmkiafeplbpaaGreatDoorZf2
import Derived.Test.YtgnmkiafeplbpaaGreatDoorRows
import Derived.ScopeJumps
import Derived.WalkMore
import Derived.Maps.OwnIn
import Derived.Deep.LoopGhost
import Derived.Maps.AppendAt
set_option linter.unusedVariables false
set_option linter.unusedSimpArgs false
set_option maxRecDepth 100000
set_option maxHeartbeats 16000000
namespace Go.Proofs.YtgnmkiafeplbpaaGreatDoor
open Go.RowKit Go.Deep
def Nd.cells (x:Nd):List Value:=[.int .i64 x.tag,.int .i64 x.n]
theorem Zp{k:IntKind}{a b:Int}(h:b=a):Ending.returned (.int k a)=.returned (.int k b):=by rw[h]
theorem QD{a b:Bool}(h:b=a):Ending.returned (.bool a)=.returned (.bool b):=by rw[h]
theorem bp2{r1 r2 a b:Int}(h:(a,b)=(r1,r2)):Ending.returned (.tuple #[.int .i64 r1,.int .i64 r2])=.returned (.tuple #[.int .i64 a,.int .i64 b]):=by cases h;rfl
theorem AfW (x:Nd)(w:World):Calls Tryz.prog 240 #[.agg x.cells.toArray] w λe w'=>e=.returned (.tuple #[.int .i64 (QX x).1,.int .i64 (QX x).2])/\Below w.heap.size w w':=by
 obtain⟨t,n⟩:=x;rw[show(Nd.cells ⟨t,n⟩).toArray=#[.int .i64 t,.int .i64 n]from rfl];go_enter Tryz.func240,Tryz.ntmps240
 go_wp2_with (refine Qx _ _ rfl ?_)
 refine Stop.to ?_;refine Qf rfl 52 _ rfl #[.int .i64 t,.int .i64 n] rfl ?_;intro G h c b a;have a:=(Below.refl w.heap.size w).trans (a.mono c);have d:=b.cellv (i:=0) (v:=.int .i64 t) rfl;have g:=b.cellv (i:=1) (v:=.int .i64 n) rfl;clear b c;go_wp2
 all_goals(try(go_quiet (fail);go_wp2))
 all_goals(go_ret2;refine⟨bp2 ?_,(by first|exact a|exact Jq a _)⟩;clear d g a;simp only[beq_iff_eq,beq_eq_false_iff_ne]at*;unfold QX;dsimp only;first| (subst_vars;rfl)| (repeat(first|rw[if_pos (by omega)]|rw[if_neg (by omega)])))
theorem XN (x:Nd)(w:World):Calls Tryz.prog 198 #[.agg x.cells.toArray] w λe w'=>e=.returned (.int .i64 (Qy x))/\Below w.heap.size w w':=by
 obtain⟨t,n⟩:=x;obtain⟨m,k⟩:∃m,m=QX ⟨t,n⟩:=⟨_,rfl⟩;have s:=Lv k;have q:t≠1->Qy ⟨t,n⟩=if n<0\/m.1<n then-1 else m.2:=λh=>by rw[Qy,if_neg h,k]
 have g:=Lv q;have h1:Hid (t=1->Qy ⟨t,n⟩=0):=by show t=1->_;rintro rfl;rfl
 clear k q;rw[show(Nd.cells ⟨t,n⟩).toArray=#[.int .i64 t,.int .i64 n]from rfl];go_enter Tryz.func198,Tryz.ntmps198
 go_wp2_with (refine Qx _ _ rfl ?_)
 refine Stop.to ?_;refine Qf rfl 52 _ rfl #[.int .i64 t,.int .i64 n] rfl ?_;intro G w1 p c a;have a:=(Below.refl w.heap.size w).trans (a.mono p);have u:=c.cellv (i:=0) (v:=.int .i64 t) rfl;have y:=c.cellv (i:=1) (v:=.int .i64 n) rfl;clear p;by_cases d:t=1
 ·have l:(t==1)=true:=by simpa using d
  go_wp2
  go_ret
  exact⟨Zp (h1.out d),a⟩
 ·have l:(t==1)=false:=by simpa using d
  have j:=Lv d;clear d;go_wp2_with (refine wpList_load_row rfl 52 _ rfl G rfl 52 #[.int .i64 t,.int .i64 n] (0,0) _ c Tryz.underlying52 rfl (by kernel_rfl) ?_)
  refine(AfW ⟨t,n⟩ w1).mono ?_;rintro e w2 ⟨rfl,b⟩;rw[<-s.out];have o:=c.below b c.lt;have b:=a.trans (b.mono a.size);have u:=o.cellv (i:=0) (v:=.int .i64 t) rfl;have y:=o.cellv (i:=1) (v:=.int .i64 n) rfl;clear c a o;by_cases z:n<0
  ·go_wp2
   go_ret
   exact⟨Zp (by rw[g.out j.out,if_pos (.inl z)]),b⟩
  ·have aa:0<=n:=by omega
   by_cases h2:m.1<n
   ·go_wp2
    go_ret
    exact⟨Zp (by rw[g.out j.out,if_pos (.inr h2)]),b⟩
   ·have ab:n<=m.1:=by omega
    go_wp2
    go_ret
    exact⟨Zp (by rw[g.out j.out,if_neg (by omega)]),b⟩
theorem AaV:∀(l:List Nd) (k:Nat) (x:Nd),l[k]? =some x->∀j u,x.cells[j]? =some u->(l.flatMap Nd.cells)[k*2+j]? =some u
 |[],k,x,h,_,_,_=>by simp at h
 |a::l,0,x,h,j,u,hj=>by
  simp at h;subst h
  have hl:j<a.cells.length:=(Lf.1 hj).1
  simp only[LF]
  rw[LQ (by omega)]
  simpa using hj
 |a::l,k+1,x,h,j,u,hj=>by
  simp only[LF]
  rw[LZ (by simp[Nd.cells];omega)]
  have:=AaV l k x (by simpa using h) j u hj
  rw[<-this];congr 1;simp[Nd.cells];omega
theorem JG{w:World}{A:Option Addr}{l:List Nd}(hr:Rd w A (l.flatMap Nd.cells)){k:Nat}{x:Nd}(hx:l[k]? =some x):∃ad,A=some ad/\∀j u,x.cells[j]? =some u->w.cell? ((ad.add (k*2)).add j)=some u:=
 hr.part (k*2) x.cells (AaV l k x hx) (by simp[Nd.cells])
theorem Acd{l:List Nd}{k:Nat}{x:Nd}(hx:l[k]? =some x)(m:Nat):JF (l.drop k) (m+1)=if Qy x<0 then none else(JF (l.drop (k+1)) (m+(Qy x).toNat)).map (· +1):=by
 have a:k<l.length:=(Lf.1 hx).1;rw[LV a,show l[k]=x by rw[Ld a]at hx;injection hx];rfl
theorem YE (l:List Nd)(p:Nat):endZ l (p:Int)=match JF (l.drop p) 1 with|none=> -1|some c=>(p:Int)+c:=by
 unfold endZ;rw[if_neg (by omega),L0];rfl
theorem Ace{l d:List Nd}{p c:Nat}(h:JF (l.drop p) 1=(JF d 0).map (· +c)):endZ l (p:Int)=(p:Int)+(c:Int):=by
 rw[YE,h];have:JF d 0=some 0:=by simp[JF]
 rw[this];simp
theorem EA (o:Option Nat)(a b:Nat):(o.map (· +a)).map (· +b)=o.map (· +(b+a)):=by
 cases o<;>simp;omega
theorem Xp (A:Option Addr)(cap:Nat)(l:List Nd)(at_:Int)(w:World)(hr:Rd w A (l.flatMap Nd.cells))(hl:l.length<=1000):
 Calls Tryz.prog 199 #[.slice A l.length cap,.int .i64 at_] w λe w'=>e=.returned (.int .i64 (endZ l at_))/\Below w.heap.size w w':=by
 have Hr:=Lv hr;have Hl:=Lv hl;have az:Below w.heap.size w w:=Below.refl _ _;clear hr hl;by_cases h0:at_<0
 ·have hz:=Lv (Ajf (l:=l) h0);go_enter Tryz.func199,Tryz.ntmps199
  go_wp2
  go_step3
  go_wp2
  rw[Exit.noGoto_ret];go_ret
  exact⟨Zp hz.out,az⟩
 ·obtain⟨p,rfl⟩:∃p:Nat,at_=(p:Int):=⟨at_.toNat,by omega⟩;go_enter Tryz.func199,Tryz.ntmps199
  go_wp2
  refine wp_scope_jumps 0 (λa' w'=>Below w.heap.size w w'/\∃(k m:Nat) (u7 u8 u9 y z aa ab ac ae af ag ah ai aj ak al am an ao ap aq ar au av:Value),a'={ tmps:=#[.slice A l.length cap,.int .i64 (p:Int),undef,undef,.int .i64 0,.int .i64 (k:Int),.int .i64 (m:Int),u7,u8,u9,y,z,aa,ab,ac,ae,af,ag,ah,ai,aj,ak,al,am,an,ao,ap,aq,ar,au,av],defers:=[] }/\p<=k/\k<=l.length/\0<m/\m<=1+200*k/\JF (l.drop p) 1=(JF (l.drop k) m).map (· +(k-p))) (λa' _=>l.length-(intOf (a'.tmps.getD 5 undef)).toNat) rfl ?_ ?_
  ·go_wp2
   go_step3
   have d:=Below.refl w.heap.size w;have hl:=Hl.out;have i:=Lv (show JF (l.drop p) 1=(JF (l.drop p) 1).map (· +(p-p)) by simp);by_cases b:p<l.length
   ·obtain⟨x,h⟩:∃x,l[p]? =some x:=⟨_,Ld b⟩;have n:=Lv (Acd h (1-1));obtain⟨ad,j,t⟩:=JG (Hr.out.go d) h;have Hc:=Lv t;have hb:=XM x;have Hx:=Lv h;have u:(p:Int)<(l.length:Int):=by omega
    clear h t b;subst j;go_wp2_with (refine Qn rfl 52 _ rfl (ad.add (p*2)) rfl x.cells _ Hc.out Tryz.underlying52 rfl (by kernel_rfl) ?_)
    refine(XN x w).mono ?_;rintro e w2 ⟨rfl,b2⟩;have a:=d.trans (b2.mono d.size);by_cases v:Qy x<0
    ·go_wp2
     simp only[Exit.jump];go_ret
     refine⟨Zp ?_,a⟩;rw[YE,i.out,show 1=1-1+1 by omega,n.out,if_pos v];rfl
    ·obtain⟨q,g⟩:∃q:Nat,Qy x=(q:Int):=⟨(Qy x).toNat,by omega⟩;have Hq:=Lv g;rw[g]at hb;rw[g];have ax:0<=(q:Int):=by omega
     clear v g
     have s:JF (l.drop p) 1=(JF (l.drop (p+1)) (1-1+q)).map (· +(p+1-p)):=by
      rw[i.out,show 1=1-1+1 by omega,n.out,Hq.out,if_neg (by omega),EA,L0];congr 1;funext c;omega
     have o:=Lv s;clear s i n;by_cases hz:1-1+q=0
     ·obtain rfl:q=0:=by omega
      go_wp2
      simp only[Exit.jump];go_ret
      refine⟨Zp ?_,a⟩;rw[Ace o.out];omega
     ·have ay:0<(1:Int)+((q:Int)-1):=by omega
      go_wp2
      go_step3
      have e1:((p+1:Nat):Int)=(p:Int)+1:=by omega
      have e2:((1-1+q:Nat):Int)=(1:Int)+((q:Int)-1):=by omega
      refine⟨rfl,⟨a,p+1,1-1+q,_,_,_,_,_,_,_,_,_,_,_,_,_,_,_,_,_,_,_,_,_,_,_,_,by rw[e1,e2],by omega,by omega,by omega,by omega,o.out⟩⟩
   ·have aw:(l.length:Int)<=(p:Int):=by omega
    go_wp2
    simp only[Exit.jump];go_ret
    refine⟨Zp ?_,d⟩;rw[YE,List.drop_eq_nil_of_le (by omega)];rfl
  ·rintro a' w' ⟨d,k,m,u7,u8,u9,y,z,aa,ab,ac,ae,af,ag,ah,ai,aj,ak,al,am,an,ao,ap,aq,ar,au,av,rfl,a2,a0,a1,hm,he⟩;have i:=Lv he;have hl:=Hl.out;clear he;by_cases b:k<l.length
   ·obtain⟨x,h⟩:∃x,l[k]? =some x:=⟨_,Ld b⟩;have n:=Lv (Acd h (m-1));obtain⟨ad,j,t⟩:=JG (Hr.out.go d) h;have Hc:=Lv t;have hb:=XM x;have Hx:=Lv h;have u:(k:Int)<(l.length:Int):=by omega
    clear h t b;subst j;go_wp2_with (refine Qn rfl 52 _ rfl (ad.add (k*2)) rfl x.cells _ Hc.out Tryz.underlying52 rfl (by kernel_rfl) ?_)
    refine(XN x w').mono ?_;rintro e w2 ⟨rfl,b2⟩;have a:=d.trans (b2.mono d.size);by_cases v:Qy x<0
    ·go_wp2
     simp only[Exit.jump];go_ret
     refine⟨Zp ?_,a⟩;rw[YE,i.out,show m=m-1+1 by omega,n.out,if_pos v];rfl
    ·obtain⟨q,g⟩:∃q:Nat,Qy x=(q:Int):=⟨(Qy x).toNat,by omega⟩;have Hq:=Lv g;rw[g]at hb;rw[g];have ax:0<=(q:Int):=by omega
     clear v g
     have s:JF (l.drop p) 1=(JF (l.drop (k+1)) (m-1+q)).map (· +(k+1-p)):=by
      rw[i.out,show m=m-1+1 by omega,n.out,Hq.out,if_neg (by omega),EA,L0];congr 1;funext c;omega
     have o:=Lv s;clear s i n;by_cases hz:m-1+q=0
     ·obtain rfl:q=0:=by omega
      obtain rfl:m=1:=by omega
      go_wp2
      simp only[Exit.jump];go_ret
      refine⟨Zp ?_,a⟩;rw[Ace o.out];omega
     ·have ay:0<(m:Int)+((q:Int)-1):=by omega
      go_wp2
      go_step3
      have e1:((k+1:Nat):Int)=(k:Int)+1:=by omega
      have e2:((m-1+q:Nat):Int)=(m:Int)+((q:Int)-1):=by omega
      refine⟨rfl,⟨a,k+1,m-1+q,_,_,_,_,_,_,_,_,_,_,_,_,_,_,_,_,_,_,_,_,_,_,_,_,by rw[e1,e2],by omega,by omega,by omega,by omega,o.out⟩,by simp[intOf];omega⟩
   ·have aw:(l.length:Int)<=(k:Int):=by omega
    obtain rfl:k=l.length:=by omega
    go_wp2
    simp only[Exit.jump];go_ret
    refine⟨Zp ?_,d⟩;rw[YE,i.out,show m=m-1+1 by omega,List.drop_length];rfl
attribute [local go_sem] Oper.semAt_some
structure Keeps (lim G:Nat)(A B:World):Prop where
 block:∀k,k<lim->k≠G->B.heap[k]? =A.heap[k]?
 size:A.heap.size<=B.heap.size
theorem Keeps.trans{lim G:Nat}{A B C:World}(h:Keeps lim G A B)(k:Keeps lim G B C):Keeps lim G A C:=⟨λi hi hg=>(k.block i hi hg).trans (h.block i hi hg),Lj h.size k.size⟩
theorem Keeps.row{lim G g:Nat}{A B:World}{t:TypeId}{cs:Array Value}(h:Keeps lim G A B)(hr:Row A g t cs)(h1:g<lim)(h2:g≠G):Row B g t cs:=(h.block g h1 h2).trans hr
theorem Rd.keeps{w0 A B:World}{lim G:Nat}{ad:Option Addr}{xs:List Value}(h0:Rd w0 ad xs)(hl:w0.heap.size<=lim)(hG:w0.heap.size<=G)(h:Rd A ad xs)(k:Keeps lim G A B):Rd B ad xs:=λj u hj=>by
 obtain⟨a,e,g⟩:=h j u hj;obtain⟨d,c,b⟩:=h0 j u hj;obtain rfl:a=d:=by rw[e]at c;injection c
 have i:=World.block_lt_of_cell? _ _ b;refine⟨a,e,?_⟩;rw[<-g];have:=k.block (a.add j).block (by omega) (by omega);simp only[World.cell?,this]
theorem QI{β:Type}{own:Nat->Prop}{B:Nat}{J:β->World->Prop}(h:Aab own B J){s:β}{W W':World}(hj:J s W)(b:Below W.heap.size W W'):J s W':=
 h s W W' none hj ⟨b.os,b.tape,b.output,b.size,λk hk _=>b.block k hk⟩ (λr e=>by cases e)
theorem UL{l:List Nd}:∀(n:Nat) (k:Int),(Zb l n k).length=n
 |0,_=>rfl
 |n+1,k=>by simp[Zb,UL n]
theorem AfR (bl ba lim G:Nat)(A:Option Addr)(cap:Nat)(l:List Nd)(p:Nat)(x:Nd)(w0 w:World)(hr0:Rd w0 A (l.flatMap Nd.cells))(hr:Rd w A (l.flatMap Nd.cells))(hl:l.length<=1000)(hx:l[p]? =some x)
 (h1:Row w bl 23 #[.slice A l.length cap]) (h2:Row w ba 3 #[.int .i64 (p:Int)]) (g1:bl<lim) (g2:ba<lim) (g3:bl≠G) (g4:ba≠G) (g5:w0.heap.size<=lim) (g6:w0.heap.size<=G) (g7:lim<=w.heap.size):
 AiF Tryz.prog 260 #[.pointer (some ⟨ba,0,none⟩),.pointer (some ⟨bl,0,none⟩)] (λk:Int=>#[.int .i64 k]) (λ_=>False) (Keeps lim G) (λxs=>xs=Zb l (Qy x).toNat (p+1)) (λ_=>True) ((Qy x).toNat+1) w:=by
 intro lb J Jx W _ b hJ ai hY y;refine callsIn_of_wp Tryz.func260 rfl trivial ?_ rfl;simp only[Tryz.ntmps260,Ly,Le,Ll,Nat.reduceAdd,Nat.reduceSub,Ln,Lp,Lz,LD,Lu,Lk];have c:Below w.heap.size w W:=⟨b.os,b.tape,b.output,b.size,λk hk=>b.block k hk (by simp)⟩;have s:=h1.below c h1.lt;have r2:=h2.below c h2.lt;have hd:=hr.go c;have hp:p<l.length:=(Lf.1 hx).1;obtain⟨u,aj,hc⟩:=JG hd hx;have Hc:=Lv hc;have ah:=Lv hr0;have Hd:=Lv hd;have HJ:=Lv hJ;have HY:=Lv hY;have au:(p:Int)<(l.length:Int):=by omega
 have hb:=XM x;have sz:lim<=W.heap.size:=Lj g7 c.size;clear hc hr b h1 h2 c hx hJ ai hY g7 hr0 hp hd;subst aj;have c1:=s.cellv (i:=0) (v:=.slice (some u) l.length cap) rfl;have c2:=r2.cellv (i:=0) (v:=.int .i64 (p:Int)) rfl;gi_wp2_with (refine ZW rfl 52 _ rfl (u.add (p*2)) rfl x.cells _ Hc.out Tryz.underlying52 rfl (by kernel_rfl) ?_);refine⟨trivial,rfl,(callsIn_wide.2 (XN x W)).mono ?_⟩;rintro e w2 ⟨rfl,q⟩;have s:=s.below q s.lt;have r2:=r2.below q r2.lt;have ak:=Hd.out.go q;have y:=QI HJ.out y q;have sz:=Lj sz q.size;clear q c1 c2 Hc Hd;by_cases ab:Qy x<0
 ·have aa:(Qy x).toNat=0:=by omega
  have ag:=Lv aa;clear aa;gi_wp2;gi_loopw [4,12] (λ_ i wr=>i=.int .i64 0/\J [] wr) (λ_ _ _=>0)
  case atStart=>exact⟨rfl,y⟩
  case round=>
   obtain⟨rfl,g⟩:=hrel;have am:Qy x<=0:=by omega
   gi_wp2;go_end0
   exact⟨⟨_,rfl⟩,.inl ⟨_,by rw[ag.out];rfl,g⟩⟩
 obtain⟨n,hn⟩:∃n:Nat,Qy x=(n:Int):=⟨(Qy x).toNat,by omega⟩;rw[hn]at hb|-;have Hn:Hid ((Qy x).toNat=n):=by show _=n;omega
 clear hn ab;gi_wp2;gi_loopw [4,12] (λkk i wr=>∃(j:Nat) (k:Int) (h:List Int),i=.int .i64 (j:Int)/\kk=.int .i64 k/\j<=n/\h++Zb l (n-j) k=Zb l n (p+1)/\Keeps lim G w2 wr/\J h wr) (λ_ i _=>n-(intOf i).toNat)
 case atStart=>exact⟨0,_,[],by simp,rfl,Nat.zero_le _,by simp,⟨λ_ _ _=>rfl,Nat.le_refl _⟩,y⟩
 case round=>
  obtain⟨j,k,h,rfl,rfl,ar,d,a,g⟩:=hrel
  have o:h.length=j:=by
   have:=congrArg List.length d;rw[La,UL,UL]at this;omega
  have m:=Lv d;have t:=Lv o;have an:=a.row s g1 g3;clear d o y;by_cases ap:j<n
  ·obtain⟨fn,aq,ae,ao,hy,hR⟩:=HY.out _ k _ g (by have:=t.out;have:=Hn.out;omega);have HR:=Lv hR;clear hR g;gi_wp2;refine⟨rfl,HR.out.mono ?_⟩;rintro e W' (⟨rfl,g,hk⟩|⟨rfl,al⟩);rotate_left
   ·clear hy;gi_wp2;refine bodyPost_ret (results_none rfl _ _ _) rfl ?_;exact⟨⟨_,rfl⟩,.inr ⟨_,trivial,al⟩⟩
   have a:=a.trans hk;have ac:=a.row s g1 g3;have c1:=ac.cellv (i:=0) (v:=.slice (some u) l.length cap) rfl;have z:Rd W' (some u) (l.flatMap Nd.cells):=ah.out.keeps g5 g6 ak a;have af:=Lv z;clear hy an z;gi_wp2;refine⟨trivial,rfl,(callsIn_wide.2 (Xp (some u) cap l k W' af.out hl)).mono ?_⟩;rintro e w3 ⟨rfl,b3⟩;have g:=QI HJ.out g b3;have a:=a.trans (⟨λi hi _=>b3.block i (by have:=hk.size;have:=a.size;omega),b3.size⟩:Keeps lim G W' w3);clear b3 c1;gi_wp2;go_roundw
   case rel=>
    refine⟨j+1,_,_,by go_num,rfl,by omega,?_,a,g⟩;rw[<-m.out,show n-j=(n-(j+1))+1 by omega,Zb];simp
   case measure=>simp[intOf];omega
  ·obtain rfl:j=n:=by omega
   gi_wp2;go_end0
   refine⟨⟨_,rfl⟩,.inl ⟨_,?_,g⟩⟩;have:=m.out;rw[Nat.sub_self]at this;rw[Hn.out, <-this];simp[Zb]
end Go.Proofs.YtgnmkiafeplbpaaGreatDoor
namespace Go.Proofs.YtgnmkiafeplbpaaGreatDoor
open Go.RowKit Go.Deep
attribute [local go_sem] Oper.semAt_some
theorem Ju:(Tryz.prog.info? 3).map (λi=>(i.zero,i.size,i.bytes))=some (some (.int .i64 0),1,8):=by kernel_rfl
def Qj (l:List Int):List Value:=l.map (Value.int .i64)
theorem Xt (l:List Int):(Qj l).length=l.length:=by simp[Qj]
theorem Xq (a b:List Int):Qj (a++b)=Qj a++Qj b:=by simp[Qj]
theorem KF (l:List Int):∀u∈Qj l,u.oneCell'=true:=by
 intro u a;simp only[Qj,LL]at a;obtain⟨x,_,rfl⟩:=a;rfl
theorem Af6{w:World}{base size n g:Nat}{e:TypeId}{v:Value}{xs:List Value}(h:w.ownsRow base e size v n xs)(hv:v.ownBlock=some g):base<=g:=by
 rcases h.2 with⟨rfl,_⟩|⟨c,a,b,rfl,d,_⟩
 ·simp[Value.ownBlock]at hv
 ·simp[Value.ownBlock]at hv;omega
theorem U6{w:World}{base base' size n:Nat}{e:TypeId}{v:Value}{xs:List Value}(h:w.ownsRow base e size v n xs)(hb:base'<=base):w.ownsRow base' e size v n xs:=by
 refine⟨h.1,?_⟩;rcases h.2 with d|⟨c,a,b,rfl,g,i⟩
 ·exact .inl d
 ·exact .inr ⟨c,a,b,rfl,Lj hb g,i⟩
structure KidsFn (A:Option Addr)(cap:Nat)(l:List Nd)(p:Int)(w w':World)(e:Ending):Prop where
 ex:∃bl ba,e=.returned (.func (.func 260) #[] #[.pointer (some ⟨ba,0,none⟩),.pointer (some ⟨bl,0,none⟩)])/\Row w' bl 23 #[.slice A l.length cap]/\Row w' ba 3 #[.int .i64 p]/\w.heap.size<=bl/\w.heap.size<=ba/\Below w.heap.size w w'
theorem AaP (A:Option Addr)(cap:Nat)(l:List Nd)(p:Int)(w:World):Calls Tryz.prog 241 #[.slice A l.length cap,.int .i64 p] w λe w'=>KidsFn A cap l p w w' e:=by
 go_enter Tryz.func241,Tryz.ntmps241
 go_wp2_with (refine Qx _ _ rfl ?_)
 refine Stop.to ?_;refine Qf rfl 23 _ rfl #[.slice A l.length cap] rfl ?_;intro k o c h b;go_wp2_with (refine Qx _ _ rfl ?_)
 refine Stop.to ?_;refine Qf rfl 3 _ rfl #[.int .i64 p] rfl ?_;intro j q a n d;have i:=h.below d (Lg h.lt a);have g:=((Below.refl w.heap.size w).trans (b.mono c)).trans ((d.mono a).mono b.size |>.mono (by have:=b.size;omega));have m:w.heap.size<=j:=by have:=b.size;omega
 clear h b d a;go_wp2
 go_ret
 exact⟨k,j,rfl,i,n,c,m,g⟩
structure IntsR (xs:List Int)(w w':World)(e:Ending):Prop where
 ex:∃v,e=.returned v/\w'.ownsRow w.heap.size 3 1 v xs.length (Qj xs)/\Below w.heap.size w w'
theorem Aeq (A:Option Addr)(cap:Nat)(l:List Nd)(at_:Int)(w:World)(hr:Rd w A (l.flatMap Nd.cells))(hl:l.length<=1000):
 Calls Tryz.prog 242 #[.slice A l.length cap,.int .i64 at_] w λe w'=>IntsR (kidsZ l at_) w w' e:=by
 obtain⟨i0,al,ao,ap,aq⟩:=info_parts Ju;have He:=Xp A cap l at_ w hr hl;have Hr:=Lv hr;have Hl:=Lv hl;clear hr hl;by_cases u:endZ l at_<0
 ·have Hk:Hid (kidsZ l at_=[]):=by show _=_;unfold kidsZ;rw[if_pos u]
  go_enter Tryz.func242,Tryz.ntmps242
  go_wp2_with fail
  refine He.mono ?_;rintro e w1 ⟨rfl,b1⟩;clear He;go_wp2
  go_ret
  exact⟨_,rfl,by rw[Hk.out];exact World.ownsRow_nil _ _ _ _,b1⟩
 obtain⟨t,q,an⟩:=Aai (by omega:0<=endZ l at_);obtain⟨p,rfl⟩:∃p:Nat,at_=(p:Int):=⟨at_.toNat,by omega⟩;rw[L0]at q;have Hx:=Lv q.root
 have Hk:Hid (kidsZ l (p:Int)=Zb l (Qy t.root).toNat (p+1)):=by
  show _=_;unfold kidsZ;rw[if_neg u,L0,q.root];rfl
 have am:0<=endZ l (p:Int):=by omega
 have ar:decide (endZ l (p:Int)<0)=false:=by simp;omega
 have hb:=XM t.root;clear q an u;refine(callsIn_wide (n:=0)).1 ?_;refine callsIn_of_wp_marks Tryz.func242 rfl trivial ?_;simp only[Tryz.ntmps242,Ly,Le,Ll,Nat.reduceAdd,Nat.reduceSub,Ln,Lp,Lz,LD,Lu,Lk];gi_wp2_with fail
 refine⟨trivial,rfl,(callsIn_wide.2 He).mono ?_⟩;rintro e w1 ⟨rfl,b1⟩;clear He;have ac:Hid (Rd w1 A (l.flatMap Nd.cells)):=Hr.out.go b1;gi_wp2_with fail
 have rg:=Row.new w1 22 #[.slice none 0 0];have b2:=b1.alloc b1.size (.cells #[.slice none 0 0] 22);have aa:Hid (Rd (w1.alloc (.cells #[.slice none 0 0] 22)) A (l.flatMap Nd.cells)):=St.alloc (S:=λW=>Rd W A (l.flatMap Nd.cells)) ac.out _;have lg:w1.heap.size<(w1.alloc (.cells #[.slice none 0 0] 22)).heap.size:=rg.lt;have gG:w.heap.size<=w1.heap.size:=b1.size;generalize w1.alloc (.cells #[.slice none 0 0] 22)=w2 at rg b2 lg aa|-;generalize w1.heap.size=G at rg lg gG|-;clear b1 ac;refine⟨trivial,rfl,(callsIn_wide.2 (AaP A cap l (p:Int) w2)).mono ?_⟩;rintro e w3 ⟨bl,ba,rfl,rl,ra,ak,aj,b3⟩;have ag:=rg.below b3 rg.lt;have ah:Hid (Rd w3 A (l.flatMap Nd.cells)):=aa.out.go b3;have ae:=b2.trans (b3.mono b2.size);obtain⟨a,b⟩:∃a,a=w3.heap.size:=⟨_,rfl⟩;have l1:bl<a:=by rw[b];exact rl.lt
 have l2:ba<a:=by rw[b];exact ra.lt
 have l3:G<a:=by rw[b];exact ag.lt
 have l4:w.heap.size<=a:=by rw[b];exact ae.size
 have l5:bl≠G:=by omega
 have l6:ba≠G:=by omega
 have g:=Lv b;have ad:=Lv (AfR bl ba a G A cap l p t.root w w3 Hr.out ah.out Hl.out Hx.out rl ra l1 l2 l5 l6 l4 gG (LI b));clear rg b2 b3 lg ak aj b rl ra aa;gi_wp2
 refine Aj3 (gf:=260) (lb:=#[.pointer (some ⟨ba,0,none⟩),.pointer (some ⟨bl,0,none⟩)]) rfl (enters_of Tryz.func260 (by kernel_rfl) rfl) ad.out (λr h=>h.elim)
  (λh k=>h.trans k) (λW m o o' hm ho hc=>⟨λk hk _=>by rw[World.putObj_heap_other (by have:=g.out;omega)],by simp⟩) (World.grownBy.refl _ _) (λ_=>rfl)
  (λd W=>∃v,Row W G 22 #[v]/\W.ownsRow a 3 1 v d.length (Qj d)/\Below w.heap.size w W/\a<=W.heap.size) (λ_ _ _=>False) ?hI ?hIx ⟨_,ag,World.ownsRow_nil _ _ _ _,ae,LI g.out⟩
  (λx a' W=>a'={ tmps:=#[.slice A l.length cap,.int .i64 (p:Int),undef,undef,.slice none 0 0,.pointer (some ⟨G,0,none⟩),.int .i64 x,.slice A l.length cap,.int .i64 (p:Int),.int .i64 (endZ l (p:Int)),.bool false,.slice A l.length cap,.int .i64 (p:Int),.func (.func 260) #[] #[.pointer (some ⟨ba,0,none⟩),.pointer (some ⟨bl,0,none⟩)],.int .i64 x,undef,undef,undef,undef,undef],defers:=[] }) ?hAx ?assign ?body ?done ?stop
 case hI=>
  rintro d X Y row ⟨v,h1,h2,z,h4⟩ s hr
  have y:∀r,row=some r->a<=r/\v.ownBlock≠some r:=λr e=>by
   rcases hr r e with h|⟨h,o,ho,hc⟩
   ·exact h.elim
   ·exact⟨by have:=g.out;omega,JC h2 ho hc⟩
  refine⟨v,h1.grown s (λe=>by have:=(y G e).1;omega),h2.kept s ?_,z.grown s z.size (λk e=>by have:=(y k e).1;omega),Lj h4 s.size⟩;cases row with
  |none=>cases v.ownBlock<;>simp
  |some r=>exact .inr (y r rfl).2
 case hIx=>exact λ_ _ _ _ _ h _ _=>h
 case hAx=>exact λx a' _ _ _ _ h _ _=>h
 case assign=>
  rintro lb d x W K hI hK;have HK:=Lv hK;clear hK;gi_wp2;exact HK.out _ _ (KeepsFrom.refl _ _) ⟨λ_ _ _=>rfl,Nat.le_refl _⟩ hI rfl
 case body=>
  rintro lb d x a' W ax _ ⟨v,h1,h2,z,h4⟩ rfl ay;have au:d.length<300:=by omega
  have hc:=h1.cellv (i:=0) (v:=v) rfl;have hf:=h1.free 0;have ha:=h2.alloc (.cells #[.int .i64 x] 3);have HA:=Lv ha;clear ha;gi_wp2_with (gi_at_builtin;refine wpListIn_append_own_at _ rfl (.tmp 15) (.tmp 17) 22 rfl a 3 i0 (.int .i64 0) 1 8 Tryz.underlying22 al ao ap aq rfl (by decide) v d.length (Qj d) rfl HA.out ⟨W.heap.size,0,none⟩ 1 1 (Qj [x]) rfl rfl (XP _ _ _) (KF _) (by unfold maxLen;omega) (by omega) (by simp;omega) ?_);intro v' W3 j s _ q;have r3:=(h1.alloc (.cells #[.int .i64 x] 3)).grown s (QK HA.out (h1.alloc _) (by decide));have b3:=QJ (z.alloc z.size _) HA.out s (by have:=z.size;simp;omega) l4;have k3:KeepsFrom w3.heap.size W W3:=(KeepsFrom.alloc _ W (.cells #[.int .i64 x] 3)).trans (KeepsFrom.of_own HA.out s);have kp:Keeps a G W W3:=⟨λk hk _=>(s.block k (by simp;omega) (λe=>by have:=Af6 HA.out e.symm;omega)).trans (Below.heap_alloc _ _ _ (by omega)),by have:=s.size;simp at this;omega⟩;have s3:a<=W3.heap.size:=Lj h4 kp.size;obtain⟨A',m',c',rfl⟩:∃A m c,v'=.slice A m c:=Ji j;have av:=r3.cellv (i:=0) (v:=v) rfl;have aw:=r3.free 0;have nG:=QK j r3 (by decide);have ab:=Lv j;clear j s q hc hf;gi_wp2;have o4:=Qu W3 G 0 (.slice A' m' c');refine⟨k3.trans (KeepsFrom.of_only r3 o4),kp.trans ⟨λk _ hk=>o4.block k hk,LI o4.size.symm⟩,_,r3.set 0 _,?_,Ql b3 o4 gG,Lj s3 (LI o4.size.symm)⟩;have:=Za ab.out o4 nG;rw[<-Xq]at this;simpa using this
 case stop=>exact λD c d W _ _ h _=>h.elim
 case done=>
  rintro D ys W hD af ⟨v,h1,h2,z,h4⟩ hK;have ai:=Lv af;have hc:=h1.cellv (i:=0) (v:=v) rfl;have HK:=Lv hK;clear hK af;gi_wp2;refine⟨by simp,.inl ⟨_,_,rfl,run_takeDeferred HK.out,?_⟩⟩;refine⟨_,results_tmp rfl _ _ _,v,rfl,?_,z.grown (grownBy_putObj' _ _ _) z.size (λk e=>by cases e;have:=g.out;omega)⟩;rw[Hk.out, <-ai.out];exact U6 ((h2.kept (grownBy_putObj' _ _ _) (.inr (JC h2 HK.out rfl)))) l4
end Go.Proofs.YtgnmkiafeplbpaaGreatDoor
namespace Go.Proofs.YtgnmkiafeplbpaaGreatDoor
open Go.RowKit Go.Deep
theorem VM{t n:Int}(h:¬(1<=t/\t<=26)):Qy ⟨t,n⟩= -1:=by
 unfold Qy;rw[if_neg (by dsimp only;omega)]
 have:QX ⟨t,n⟩=(-1, -1):=by
  unfold QX;dsimp only
  repeat(first|rw[if_pos (by omega)]|rw[if_neg (by omega)])
 rw[this];split<;>rfl
theorem Vx (t:Int)(w:World)(ht:InI t):Calls Tryz.prog 201 #[.int .i64 t] w λe w'=>e=.returned (.int .i64 (Xa t))/\w=w':=by
 unfold InI at ht;by_cases h:2<=t/\t<=9
 ·obtain⟨c,a⟩:=h;have b:Hid (Xa t=t-1):=by show _=_;unfold Xa;rw[if_pos ⟨c,a⟩]
  go_enter Tryz.func201,Tryz.ntmps201
  go_wp2
  go_ret
  exact⟨Zp b.out,rfl⟩
 ·have b:Hid (Xa t=0):=by show _=_;unfold Xa;rw[if_neg h]
  have a:t<2\/9<t:=by omega
  clear h;rcases a with a|a
  all_goals
   go_enter Tryz.func201,Tryz.ntmps201
   go_wp2
   go_ret
   exact⟨Zp b.out,rfl⟩
structure PgV where
 params:Int
 va:Option Addr
 vcap:Nat
 V:List Int
 ba:Option Addr
 bcap:Nat
 body:List Nd
def PgV.cells (p:PgV):Array Value:=#[.int .i64 p.params,.slice p.va p.V.length p.vcap,.slice p.ba p.body.length p.bcap]
structure PgV.ok (p:PgV)(w:World):Prop where
 par:InI p.params
 vlen:p.V.length<=p.vcap
 vmax:p.vcap<=maxLen
 vnil:p.va=none->p.vcap=0
 vrd:Rd w p.va (Qj p.V)
 vin:∀t∈p.V,InI t
 blen:p.body.length<=p.bcap
 bmax:p.bcap<=maxLen
 bnil:p.ba=none->p.bcap=0
 brd:Rd w p.ba (p.body.flatMap Nd.cells)
 bin:∀x∈p.body,InI x.tag/\InI x.n
theorem PgV.ok.go{p:PgV}{w w':World}(h:p.ok w)(b:Below w.heap.size w w'):p.ok w':=
 ⟨h.par,h.vlen,h.vmax,h.vnil,h.vrd.go b,h.vin,h.blen,h.bmax,h.bnil,h.brd.go b,h.bin⟩
instance St.pgok{p:PgV}:St (λW=>p.ok W):=⟨λh b=>h.go b⟩
theorem Q4{w:World}{A:Option Addr}{l:List Int}(hr:Rd w A (Qj l)){k:Nat}{x:Int}(hx:l[k]? =some x):∃ad,A=some ad/\w.cell? (ad.add k)=some (.int .i64 x):=
 hr k _ (by simp[Qj,hx])
def Yr (params:Int)(j:Nat)(t:Int):Bool:=decide (t=0\/(params<=j/\1<=t/\t<=9))
def Yn (params:Int)(V:List Int):Prop:=0<=params/\params<=V.length/\V.length<=12/\∀j,j<V.length->Yr params j (V.getD j 0)=true
instance (params:Int)(V:List Int):Decidable (Yn params V):=by unfold Yn;infer_instance
def KJ (params:Int)(V:List Int):Int:=if Yn params V then 0 else 14
theorem Abu{params:Int}{V:List Int}(h:params<0\/(V.length:Int)<params\/12<(V.length:Int)):KJ params V=14:=by
 unfold KJ;rw[if_neg];unfold Yn;omega
theorem Aiu{params:Int}{V:List Int}{j:Nat}{t:Int}(hj:V[j]? =some t)(h:Yr params j t=false):KJ params V=14:=by
 unfold KJ;rw[if_neg];rintro⟨_,_,_,a⟩;have:=a j (Lf.1 hj).1;rw[LP,hj,Nx,h]at this;cases this
theorem Akq{params:Int}{V:List Int}(h1:0<=params)(h2:params<=V.length)(h3:(V.length:Int)<=12)(h:∀j,j<V.length->Yr params j (V.getD j 0)=true):KJ params V=0:=by
 unfold KJ;rw[if_pos ⟨h1,h2,by omega,h⟩]
theorem UH{params:Int}{V:List Int}{k:Nat}{t:Int}(h:∀j,j<k->Yr params j (V.getD j 0)=true)(hk:V[k]? =some t)(ht:Yr params k t=true):∀j,j<k+1->Yr params j (V.getD j 0)=true:=λj hj=>by
 by_cases e:j=k
 ·subst e;rw[LP,hk];exact ht
 ·exact h j (by omega)
theorem Akr (p:PgV)(w:World)(hok:p.ok w):Calls Tryz.prog 130 #[.agg p.cells] w λe w'=>e=.returned (.int .i64 (KJ p.params p.V))/\Below w.heap.size w w':=by
 have m:=Lv hok;clear hok;obtain⟨params,va,c,V,ba,g,l⟩:=p;dsimp only;rw[show(PgV.mk params va c V ba g l).cells=#[.int .i64 params,.slice va V.length c,.slice ba l.length g]from rfl];go_enter Tryz.func130,Tryz.ntmps130
 go_wp2_with (refine Qx _ _ rfl ?_)
 refine Stop.to ?_;refine Qf rfl 25 _ rfl #[.int .i64 params,.slice va V.length c,.slice ba l.length g] rfl ?_;intro G w1 hG r1 n;have n:=(Below.refl w.heap.size w).trans (n.mono hG);have s:=m.out.go n;have c0:=r1.cellv (i:=0) (v:=.int .i64 params) rfl;have c1:=r1.cellv (i:=1) (v:=.slice va V.length c) rfl;have af:=s.vrd;have aa:=Lv af;have z:=Lv m.out.vin;have u:=m.out.par;unfold InI at u;dsimp only at aa z u;clear hG s af r1 m;by_cases h0:params<0
 ·have d:=Lv (Abu (V:=V) (.inl h0));go_wp2
  go_ret
  exact⟨Zp d.out,n⟩
 by_cases q:(V.length:Int)<params
 ·have d:=Lv (Abu (V:=V) (.inr (.inl q)));have x:0<=params:=by omega
  go_wp2
  go_ret
  exact⟨Zp d.out,n⟩
 by_cases h2:12<(V.length:Int)
 ·have d:=Lv (Abu (params:=params) (V:=V) (.inr (.inr h2)));have x:0<=params:=by omega
  have ab:params<=(V.length:Int):=by omega
  clear h0 q;go_wp2
  go_ret
  exact⟨Zp d.out,n⟩
 have x:0<=params:=by omega
 have ab:params<=(V.length:Int):=by omega
 have ag:(V.length:Int)<=12:=by omega
 clear h0 q h2;go_wp2
 go_loop [25] (λi=>∃k:Nat,i=.int .i64 (k:Int)/\k<=V.length/\Hid (∀j,j<k->Yr params j (V.getD j 0)=true)) (λi=>V.length-(intOf i).toNat)
 case atStart=>exact⟨0,rfl,Nat.zero_le _,Lv (λj h=>by omega)⟩
 case round=>
  obtain⟨k,rfl,hk,b⟩:=hrel;by_cases ae:k<V.length
  ·obtain⟨t,ht⟩:∃t,V[k]? =some t:=⟨_,Ld ae⟩;obtain⟨ad,ah,hc⟩:=Q4 aa.out ht;have ac:=z.out t (Li ht);have o:=Lv ac;unfold InI at ac;have Ht:=Lv ht;have ak:(k:Int)<(V.length:Int):=by omega
   clear ht ae;subst ah;by_cases a:Yr params k t=true
   ·have Hg:=Lv a;simp only[Yr,decide_eq_true_eq]at a;have d:t=0\/(t≠0/\(params<=k/\1<=t/\t<=9)):=by omega
    clear a;rcases d with rfl|⟨y,am,an,ao⟩
    ·go_wp2
     go_round
     case rel=>exact⟨k+1,by go_num,by omega,Lv (UH b.out Ht.out Hg.out)⟩
     case measure=>simp[intOf];omega
    ·have e0:(t != 0)=true:=by simpa using y
     by_cases q:t=1
     ·have e1:(t != 1)=false:=by simpa using q
      clear y q;go_wp2
      go_round
      case rel=>exact⟨k+1,by go_num,by omega,Lv (UH b.out Ht.out Hg.out)⟩
      case measure=>simp[intOf];omega
     ·have e1:(t != 1)=true:=by simpa using q
      have e2:(Xa t==0)=false:=by simp[Xa];omega
      clear y q;go_wp2_with (go_at_call 201;refine(Vx t _ o.out).mono ?_;rintro e w' ⟨rfl,rfl⟩)
      go_round
      case rel=>exact⟨k+1,by go_num,by omega,Lv (UH b.out Ht.out Hg.out)⟩
      case measure=>simp[intOf];omega
   ·have d:=Lv (Aiu Ht.out (by simpa using a));simp only[Yr,decide_eq_true_eq]at a;have e0:(t != 0)=true:=by simp;omega
    by_cases ai:(k:Int)<params
    ·clear a;go_wp2
     go_ret
     exact⟨Zp d.out,n⟩
    ·have aj:params<=(k:Int):=by omega
     have e1:(t != 1)=true:=by simp;omega
     have e2:Xa t=0:=by unfold Xa;rw[if_neg (by omega)]
     have E2:=Lv e2;clear a ai e2;go_wp2_with (go_at_call 201;refine(Vx t _ o.out).mono ?_;rintro e w' ⟨rfl,rfl⟩;rw[E2.out])
     go_ret
     exact⟨Zp d.out,n⟩
  ·have al:(V.length:Int)<=(k:Int):=by omega
   obtain rfl:k=V.length:=by omega
   have d:=Lv (Akq x ab ag b.out);go_wp2
   go_ret
   exact⟨Zp d.out,n⟩
def Aji (p:PgV):Bool:=decide (p.body.length<=60/\p.V.length<=20)
theorem Alf (p:PgV)(w:World):Calls Tryz.prog 21 #[.agg p.cells] w λe w'=>e=.returned (.bool (Aji p))/\Below w.heap.size w w':=by
 obtain⟨b,k,d,V,j,c,a⟩:=p;rw[show(PgV.mk b k d V j c a).cells=#[.int .i64 b,.slice k V.length d,.slice j a.length c]from rfl];have q:Hid (Aji ⟨b,k,d,V,j,c,a⟩=decide (a.length<=60/\V.length<=20)):=by show _=_;rfl
 go_enter Tryz.func21,Tryz.ntmps21
 go_wp2_with (refine Qx _ _ rfl ?_)
 refine Stop.to ?_;refine Qf rfl 25 _ rfl #[.int .i64 b,.slice k V.length d,.slice j a.length c] rfl ?_;intro G w1 t s g;have g:=(Below.refl w.heap.size w).trans (g.mono t);have y:=s.cellv (i:=1) (v:=.slice k V.length d) rfl;have z:=s.cellv (i:=2) (v:=.slice j a.length c) rfl;clear t s;by_cases l:a.length<=60
 ·have m:(a.length:Int)<=60:=by omega
  by_cases n:V.length<=20
  ·have o:(V.length:Int)<=20:=by omega
   go_wp2
   go_ret
   exact⟨QD (q.out.trans (decide_eq_true ⟨l,n⟩)),g⟩
  ·have o:20<(V.length:Int):=by omega
   have x:=Lv n;clear n;go_wp2
   go_ret
   exact⟨QD (q.out.trans (by simp[l];omega)),g⟩
 ·have m:60<(a.length:Int):=by omega
  have u:=Lv l;clear l;go_wp2
  go_ret
  exact⟨QD (q.out.trans (decide_eq_false (λh:a.length<=60/\V.length<=20=>u.out h.1))),g⟩
def YM (l:List Nat):List Int:=l.map λn:Nat=>(n:Int)
theorem Acy (l:List Nat):(YM l).length=l.length:=by simp[YM]
end Go.Proofs.YtgnmkiafeplbpaaGreatDoor
namespace Go.Proofs.YtgnmkiafeplbpaaGreatDoor
end Go.Proofs.YtgnmkiafeplbpaaGreatDoor
namespace Go.Proofs.YtgnmkiafeplbpaaGreatDoor
open Go.RowKit Go.Deep
theorem U4:∀{ks:List Tr} {k:Tr},k∈ks->k.size<=(QM ks).length
 |[],_,h=>by simp at h
 |t::ts,k,h=>by
  rw[QM,La]
  rcases L6.1 h with rfl|h
  ·simp[Tr.size]
  ·have:=U4 h;omega
theorem Af7{w:World}{base n:Nat}{e:TypeId}{v:Value}{xs:List Value}(h:w.ownsRow base e 1 v n xs):∃A cap,v=.slice A n cap/\Rd w A xs/\n<=cap/\(A=none->cap=0):=by
 have s:xs.length=n:=by have:=h.1;omega
 rcases h.2 with⟨rfl,d⟩|⟨g,cap,a,rfl,q,k,i,t,m,o⟩
 ·have p:xs=[]:=L3 (by omega);subst p;refine⟨none,0,by rw[d],Rd.nil _ _,by omega,λ_=>rfl⟩
 ·refine⟨some ⟨g,0,none⟩,cap,rfl,λj u b=>⟨_,rfl,?_⟩,i,λh=>by cases h⟩;have l:Row w g e a:=k
  exact l.from_ 0 (cs:=xs) (λj v b=>by
   rw[LS, <-N2]
   have c:(a.toList.take (n*1))[j]? =some v:=by rw[o];exact b
   rw[Nc (by have:=(Lf.1 b).1;omega)]at c;exact c) j u b
theorem Z5 (W:World)(xs:List Value)(t:TypeId):Rd (W.alloc (.cells xs.toArray t)) (some ⟨W.heap.size,0,none⟩) xs:=λj u hj=>⟨_,rfl,XP W xs t j u hj⟩
theorem Aix{w:World}:(zeroValue 52).run Tryz.prog w=.ok (.agg #[.int .i64 0,.int .i64 0]) w:=by kernel_rfl
end Go.Proofs.YtgnmkiafeplbpaaGreatDoor
