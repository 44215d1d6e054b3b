/- Lemmas for RunnerKillsP. -/
import Derived.Test.YtkoikjnlpifbjaaGreatZk1
import Derived.Test.YtkoikjnlpifbjaaGreatZk3
import Derived.Test.YtkoikjnlpifbjaaGreatRows
import Derived.ScopeJumps
import Derived.WalkMore
import Derived.Maps.OwnIn
import Derived.Deep.LoopGhost
import Derived.Maps.AppendAt
set_option linter.unusedVariables false
set_option linter.unusedSimpArgs false
set_option maxRecDepth 100000
set_option maxHeartbeats 16000000
namespace Go.Proofs.YtkoikjnlpifbjaaGreat
open Go.RowKit Go.Deep
def Nd.cells (x:Nd):List Value:=[.int .i64 x.tag,.int .i64 x.n]
theorem QS{k:IntKind}{a b:Int}(h:b=a):Ending.returned (.int k a)=.returned (.int k b):=by rw[h]
theorem Kg{a b:Bool}(h:b=a):Ending.returned (.bool a)=.returned (.bool b):=by rw[h]
theorem bp2{r1 r2 a b:Int}(h:(a,b)=(r1,r2)):Ending.returned (.tuple #[.int .i64 r1,.int .i64 r2])=.returned (.tuple #[.int .i64 a,.int .i64 b]):=by cases h;rfl
theorem Ae3 (x:Nd)(w:World):Calls Tryz.prog 137 #[.agg x.cells.toArray] w λe w'=>e=.returned (.tuple #[.int .i64 (Q9 x).1,.int .i64 (Q9 x).2])/\Below w.heap.size w w':=by
 obtain⟨t,n⟩:=x;rw[show(Nd.cells ⟨t,n⟩).toArray=#[.int .i64 t,.int .i64 n]from rfl];go_enter Tryz.func137,Tryz.ntmps137
 go_wp2_with (refine Qq _ _ rfl ?_)
 refine Stop.to ?_;refine Qe rfl 65 _ rfl #[.int .i64 t,.int .i64 n] rfl ?_;intro G k g d c;have c:=(Below.refl w.heap.size w).trans (c.mono g);have h:=d.cellv (i:=0) (v:=.int .i64 t) rfl;have j:=d.cellv (i:=1) (v:=.int .i64 n) rfl;clear d g;go_wp2
 all_goals(try(go_quiet (fail);go_wp2))
 all_goals(go_ret2;refine⟨bp2 ?_,(by first|exact c|exact Z0 c _)⟩;clear h j c;simp only[beq_iff_eq,beq_eq_false_iff_ne]at*;unfold Q9;dsimp only;first| (subst_vars;rfl)| (repeat(first|rw[if_pos (by omega)]|rw[if_neg (by omega)])))
theorem XQ (x:Nd)(w:World):Calls Tryz.prog 101 #[.agg x.cells.toArray] w λe w'=>e=.returned (.int .i64 (Qv x))/\Below w.heap.size w w':=by
 obtain⟨t,n⟩:=x;obtain⟨m,o⟩:∃m,m=Q9 ⟨t,n⟩:=⟨_,rfl⟩;have y:=Lh o;have u:t≠1->Qv ⟨t,n⟩=if n<0\/m.1<n then-1 else m.2:=λh=>by rw[Qv,if_neg h,o]
 have k:=Lh u;have h1:Hid (t=1->Qv ⟨t,n⟩=0):=by show t=1->_;rintro rfl;rfl
 clear o u;rw[show(Nd.cells ⟨t,n⟩).toArray=#[.int .i64 t,.int .i64 n]from rfl];go_enter Tryz.func101,Tryz.ntmps101
 go_wp2_with (refine Qq _ _ rfl ?_)
 refine Stop.to ?_;refine Qe rfl 65 _ rfl #[.int .i64 t,.int .i64 n] rfl ?_;intro G w1 s g c;have c:=(Below.refl w.heap.size w).trans (c.mono s);have z:=g.cellv (i:=0) (v:=.int .i64 t) rfl;have c1:=g.cellv (i:=1) (v:=.int .i64 n) rfl;clear s;by_cases j:t=1
 ·have p:(t==1)=true:=by simpa using j
  go_wp2
  go_ret
  exact⟨QS (h1.out j),c⟩
 ·have p:(t==1)=false:=by simpa using j
  have l:=Lh j;clear j;go_wp2_with (refine wpList_load_row rfl 65 _ rfl G rfl 65 #[.int .i64 t,.int .i64 n] (0,0) _ g Tryz.underlying65 rfl (by kernel_rfl) ?_)
  refine(Ae3 ⟨t,n⟩ w1).mono ?_;rintro e w2 ⟨rfl,d⟩;rw[<-y.out];have q:=g.below d g.lt;have d:=c.trans (d.mono c.size);have z:=q.cellv (i:=0) (v:=.int .i64 t) rfl;have c1:=q.cellv (i:=1) (v:=.int .i64 n) rfl;clear g c q;by_cases h0:n<0
  ·go_wp2
   go_ret
   exact⟨QS (by rw[k.out l.out,if_pos (.inl h0)]),d⟩
  ·have aa:0<=n:=by omega
   by_cases h2:m.1<n
   ·go_wp2
    go_ret
    exact⟨QS (by rw[k.out l.out,if_pos (.inr h2)]),d⟩
   ·have ab:n<=m.1:=by omega
    go_wp2
    go_ret
    exact⟨QS (by rw[k.out l.out,if_neg (by omega)]),d⟩
theorem EZ:∀(l:List Nd) (k:Nat) (x:Nd),l[k]? =some x->∀j u,x.cells[j]? =some u->(l.flatMap Nd.cells)[k*2+j]? =some u
 |[],k,x,h,_,_,_=>by simp at h
 |a::l,0,x,h,j,u,hj=>by
  simp at h;subst h
  have hl:j<a.cells.length:=(La.1 hj).1
  simp only[L8]
  rw[L3 (by omega)]
  simpa using hj
 |a::l,k+1,x,h,j,u,hj=>by
  simp only[L8]
  rw[Lx (by simp[Nd.cells];omega)]
  have:=EZ l k x (by simpa using h) j u hj
  rw[<-this];congr 1;simp[Nd.cells];omega
theorem J6{w:World}{A:Option Addr}{l:List Nd}(hr:Rd w A (l.flatMap Nd.cells)){k:Nat}{x:Nd}(hx:l[k]? =some x):∃ad,A=some ad/\∀j u,x.cells[j]? =some u->w.cell? ((ad.add (k*2)).add j)=some u:=
 hr.part (k*2) x.cells (EZ l k x hx) (by simp[Nd.cells])
theorem Abf{l:List Nd}{k:Nat}{x:Nd}(hx:l[k]? =some x)(m:Nat):JM (l.drop k) (m+1)=if Qv x<0 then none else(JM (l.drop (k+1)) (m+(Qv x).toNat)).map (· +1):=by
 have c:k<l.length:=(La.1 hx).1;rw[LH c,show l[k]=x by rw[Lb c]at hx;injection hx];rfl
theorem YA (l:List Nd)(p:Nat):endZ l (p:Int)=match JM (l.drop p) 1 with|none=> -1|some c=>(p:Int)+c:=by
 unfold endZ;rw[if_neg (by omega),Ln];rfl
theorem Abg{l d:List Nd}{p c:Nat}(h:JM (l.drop p) 1=(JM d 0).map (· +c)):endZ l (p:Int)=(p:Int)+(c:Int):=by
 rw[YA,h];have:JM d 0=some 0:=by simp[JM]
 rw[this];simp
theorem VE (o:Option Nat)(a b:Nat):(o.map (· +a)).map (· +b)=o.map (· +(b+a)):=by
 cases o<;>simp;omega
theorem JH (A:Option Addr)(cap:Nat)(l:List Nd)(at_:Int)(w:World)(hr:Rd w A (l.flatMap Nd.cells))(hl:l.length<=1000):
 Calls Tryz.prog 102 #[.slice A l.length cap,.int .i64 at_] w λe w'=>e=.returned (.int .i64 (endZ l at_))/\Below w.heap.size w w':=by
 have Hr:=Lh hr;have Hl:=Lh hl;have a1:Below w.heap.size w w:=Below.refl _ _;clear hr hl;by_cases h0:at_<0
 ·have hz:=Lh (Ah6 (l:=l) h0);go_enter Tryz.func102,Tryz.ntmps102
  go_wp2
  go_step3
  go_wp2
  rw[Exit.noGoto_ret];go_ret
  exact⟨QS hz.out,a1⟩
 ·obtain⟨p,rfl⟩:∃p:Nat,at_=(p:Int):=⟨at_.toNat,by omega⟩;go_enter Tryz.func102,Tryz.ntmps102
  go_wp2
  refine wp_scope_jumps 0 (λa' w'=>Below w.heap.size w w'/\∃(k m:Nat) (u7 u8 u9 aa ab ac ae af ag ah ai aj ak al am an ao ap aq ar au av aw ax:Value),a'={ tmps:=#[.slice A l.length cap,.int .i64 (p:Int),undef,undef,.int .i64 0,.int .i64 (k:Int),.int .i64 (m:Int),u7,u8,u9,aa,ab,ac,ae,af,ag,ah,ai,aj,ak,al,am,an,ao,ap,aq,ar,au,av,aw,ax],defers:=[] }/\p<=k/\k<=l.length/\0<m/\m<=1+200*k/\JM (l.drop p) 1=(JM (l.drop k) m).map (· +(k-p))) (λa' _=>l.length-(intOf (a'.tmps.getD 5 undef)).toNat) rfl ?_ ?_
  ·go_wp2
   go_step3
   have h:=Below.refl w.heap.size w;have hl:=Hl.out;have n:=Lh (show JM (l.drop p) 1=(JM (l.drop p) 1).map (· +(p-p)) by simp);by_cases g:p<l.length
   ·obtain⟨x,j⟩:∃x,l[p]? =some x:=⟨_,Lb g⟩;have s:=Lh (Abf j (1-1));obtain⟨ad,o,v⟩:=J6 (Hr.out.go h) j;have Hc:=Lh v;have hb:=JT x;have Hx:=Lh j;have y:(p:Int)<(l.length:Int):=by omega
    clear j v g;subst o;go_wp2_with (refine QT rfl 65 _ rfl (ad.add (p*2)) rfl x.cells _ Hc.out Tryz.underlying65 rfl (by kernel_rfl) ?_)
    refine(XQ x w).mono ?_;rintro e w2 ⟨rfl,b2⟩;have d:=h.trans (b2.mono h.size);by_cases z:Qv x<0
    ·go_wp2
     simp only[Exit.jump];go_ret
     refine⟨QS ?_,d⟩;rw[YA,n.out,show 1=1-1+1 by omega,s.out,if_pos z];rfl
    ·obtain⟨q,i⟩:∃q:Nat,Qv x=(q:Int):=⟨(Qv x).toNat,by omega⟩;have Hq:=Lh i;rw[i]at hb;rw[i];have az:0<=(q:Int):=by omega
     clear z i
     have u:JM (l.drop p) 1=(JM (l.drop (p+1)) (1-1+q)).map (· +(p+1-p)):=by
      rw[n.out,show 1=1-1+1 by omega,s.out,Hq.out,if_neg (by omega),VE,Ln];congr 1;funext c;omega
     have t:=Lh u;clear u n s;by_cases hz:1-1+q=0
     ·obtain rfl:q=0:=by omega
      go_wp2
      simp only[Exit.jump];go_ret
      refine⟨QS ?_,d⟩;rw[Abg t.out];omega
     ·have a0:0<(1:Int)+((q:Int)-1):=by omega
      go_wp2
      go_step3
      have e1:((p+1:Nat):Int)=(p:Int)+1:=by omega
      have e2:((1-1+q:Nat):Int)=(1:Int)+((q:Int)-1):=by omega
      refine⟨rfl,⟨d,p+1,1-1+q,_,_,_,_,_,_,_,_,_,_,_,_,_,_,_,_,_,_,_,_,_,_,_,_,by rw[e1,e2],by omega,by omega,by omega,by omega,t.out⟩⟩
   ·have ay:(l.length:Int)<=(p:Int):=by omega
    go_wp2
    simp only[Exit.jump];go_ret
    refine⟨QS ?_,h⟩;rw[YA,N2 (by omega)];rfl
  ·rintro a' w' ⟨h,k,m,u7,u8,u9,aa,ab,ac,ae,af,ag,ah,ai,aj,ak,al,am,an,ao,ap,aq,ar,au,av,aw,ax,rfl,a4,a2,a3,hm,he⟩;have n:=Lh he;have hl:=Hl.out;clear he;by_cases g:k<l.length
   ·obtain⟨x,j⟩:∃x,l[k]? =some x:=⟨_,Lb g⟩;have s:=Lh (Abf j (m-1));obtain⟨ad,o,v⟩:=J6 (Hr.out.go h) j;have Hc:=Lh v;have hb:=JT x;have Hx:=Lh j;have y:(k:Int)<(l.length:Int):=by omega
    clear j v g;subst o;go_wp2_with (refine QT rfl 65 _ rfl (ad.add (k*2)) rfl x.cells _ Hc.out Tryz.underlying65 rfl (by kernel_rfl) ?_)
    refine(XQ x w').mono ?_;rintro e w2 ⟨rfl,b2⟩;have d:=h.trans (b2.mono h.size);by_cases z:Qv x<0
    ·go_wp2
     simp only[Exit.jump];go_ret
     refine⟨QS ?_,d⟩;rw[YA,n.out,show m=m-1+1 by omega,s.out,if_pos z];rfl
    ·obtain⟨q,i⟩:∃q:Nat,Qv x=(q:Int):=⟨(Qv x).toNat,by omega⟩;have Hq:=Lh i;rw[i]at hb;rw[i];have az:0<=(q:Int):=by omega
     clear z i
     have u:JM (l.drop p) 1=(JM (l.drop (k+1)) (m-1+q)).map (· +(k+1-p)):=by
      rw[n.out,show m=m-1+1 by omega,s.out,Hq.out,if_neg (by omega),VE,Ln];congr 1;funext c;omega
     have t:=Lh u;clear u n s;by_cases hz:m-1+q=0
     ·obtain rfl:q=0:=by omega
      obtain rfl:m=1:=by omega
      go_wp2
      simp only[Exit.jump];go_ret
      refine⟨QS ?_,d⟩;rw[Abg t.out];omega
     ·have a0:0<(m:Int)+((q:Int)-1):=by omega
      go_wp2
      go_step3
      have e1:((k+1:Nat):Int)=(k:Int)+1:=by omega
      have e2:((m-1+q:Nat):Int)=(m:Int)+((q:Int)-1):=by omega
      refine⟨rfl,⟨d,k+1,m-1+q,_,_,_,_,_,_,_,_,_,_,_,_,_,_,_,_,_,_,_,_,_,_,_,_,by rw[e1,e2],by omega,by omega,by omega,by omega,t.out⟩,by simp[intOf];omega⟩
   ·have ay:(l.length:Int)<=(k:Int):=by omega
    obtain rfl:k=l.length:=by omega
    go_wp2
    simp only[Exit.jump];go_ret
    refine⟨QS ?_,h⟩;rw[YA,n.out,show m=m-1+1 by omega,List.drop_length];rfl
attribute [local go_sem] Oper.semAt_some
structure Keeps (lim G:Nat)(A B:World):Prop where
 block:∀k,k<lim->k≠G->B.heap[k]? =A.heap[k]?
 size:A.heap.size<=B.heap.size
theorem Keeps.trans{lim G:Nat}{A B C:World}(h:Keeps lim G A B)(k:Keeps lim G B C):Keeps lim G A C:=⟨λi hi hg=>(k.block i hi hg).trans (h.block i hi hg),Ld h.size k.size⟩
theorem Keeps.row{lim G g:Nat}{A B:World}{t:TypeId}{cs:Array Value}(h:Keeps lim G A B)(hr:Row A g t cs)(h1:g<lim)(h2:g≠G):Row B g t cs:=(h.block g h1 h2).trans hr
theorem Rd.keeps{w0 A B:World}{lim G:Nat}{ad:Option Addr}{xs:List Value}(h0:Rd w0 ad xs)(hl:w0.heap.size<=lim)(hG:w0.heap.size<=G)(h:Rd A ad xs)(k:Keeps lim G A B):Rd B ad xs:=λj u hj=>by
 obtain⟨a,e,i⟩:=h j u hj;obtain⟨g,d,c⟩:=h0 j u hj;obtain rfl:a=g:=by rw[e]at d;injection d
 have l:=World.block_lt_of_cell? _ _ c;refine⟨a,e,?_⟩;rw[<-i];have:=k.block (a.add j).block (by omega) (by omega);simp only[World.cell?,this]
theorem QI{β:Type}{own:Nat->Prop}{B:Nat}{J:β->World->Prop}(h:Ei own B J){s:β}{W W':World}(hj:J s W)(b:Below W.heap.size W W'):J s W':=
 h s W W' none hj ⟨b.os,b.tape,b.output,b.size,λk hk _=>b.block k hk⟩ (λr e=>by cases e)
theorem Un{l:List Nd}:∀(n:Nat) (k:Int),(Zx l n k).length=n
 |0,_=>rfl
 |n+1,k=>by simp[Zx,Un n]
theorem AeZ (bl ba lim G:Nat)(A:Option Addr)(cap:Nat)(l:List Nd)(p:Nat)(x:Nd)(w0 w:World)(hr0:Rd w0 A (l.flatMap Nd.cells))(hr:Rd w A (l.flatMap Nd.cells))(hl:l.length<=1000)(hx:l[p]? =some x)
 (h1:Row w bl 23 #[.slice A l.length cap]) (h2:Row w ba 3 #[.int .i64 (p:Int)]) (g1:bl<lim) (g2:ba<lim) (g3:bl≠G) (g4:ba≠G) (g5:w0.heap.size<=lim) (g6:w0.heap.size<=G) (g7:lim<=w.heap.size):
 AcI Tryz.prog 173 #[.pointer (some ⟨ba,0,none⟩),.pointer (some ⟨bl,0,none⟩)] (λk:Int=>#[.int .i64 k]) (λ_=>False) (Keeps lim G) (λxs=>xs=Zx l (Qv x).toNat (p+1)) (λ_=>True) ((Qv x).toNat+1) w:=by
 intro lb J Jx W _ d hJ aj hY h0;refine callsIn_of_wp Tryz.func173 rfl trivial ?_ rfl;simp only[Tryz.ntmps173,Lk,Lc,Lo,Nat.reduceAdd,Nat.reduceSub,Li,Lj,Lp,L5,Lm,Ll];have g:Below w.heap.size w W:=⟨d.os,d.tape,d.output,d.size,λk hk=>d.block k hk (by simp)⟩;have u:=h1.below g h1.lt;have r2:=h2.below g h2.lt;have hd:=hr.go g;have hp:p<l.length:=(La.1 hx).1;obtain⟨z,ak,hc⟩:=J6 hd hx;have Hc:=Lh hc;have ai:=Lh hr0;have Hd:=Lh hd;have HJ:=Lh hJ;have HY:=Lh hY;have av:(p:Int)<(l.length:Int):=by omega
 have hb:=JT x;have sz:lim<=W.heap.size:=Ld g7 g.size;clear hc hr d h1 h2 g hx hJ aj hY g7 hr0 hp hd;subst ak;have c1:=u.cellv (i:=0) (v:=.slice (some z) l.length cap) rfl;have c2:=r2.cellv (i:=0) (v:=.int .i64 (p:Int)) rfl;gi_wp2_with (refine Je rfl 65 _ rfl (z.add (p*2)) rfl x.cells _ Hc.out Tryz.underlying65 rfl (by kernel_rfl) ?_);refine⟨trivial,rfl,(callsIn_wide.2 (XQ x W)).mono ?_⟩;rintro e w2 ⟨rfl,t⟩;have u:=u.below t u.lt;have r2:=r2.below t r2.lt;have al:=Hd.out.go t;have h0:=QI HJ.out h0 t;have sz:=Ld sz t.size;clear t c1 c2 Hc Hd;by_cases ac:Qv x<0
 ·have ab:(Qv x).toNat=0:=by omega
  have ah:=Lh ab;clear ab;gi_wp2;gi_loopw [4,12] (λ_ i wr=>i=.int .i64 0/\J [] wr) (λ_ _ _=>0)
  case atStart=>exact⟨rfl,h0⟩
  case round=>
   obtain⟨rfl,m⟩:=hrel;have an:Qv x<=0:=by omega
   gi_wp2;go_end0
   exact⟨⟨_,rfl⟩,.inl ⟨_,by rw[ah.out];rfl,m⟩⟩
 obtain⟨n,hn⟩:∃n:Nat,Qv x=(n:Int):=⟨(Qv x).toNat,by omega⟩;rw[hn]at hb|-;have Hn:Hid ((Qv x).toNat=n):=by show _=n;omega
 clear hn ac;gi_wp2;gi_loopw [4,12] (λkk i wr=>∃(j:Nat) (k:Int) (o:List Int),i=.int .i64 (j:Int)/\kk=.int .i64 k/\j<=n/\o++Zx l (n-j) k=Zx l n (p+1)/\Keeps lim G w2 wr/\J o wr) (λ_ i _=>n-(intOf i).toNat)
 case atStart=>exact⟨0,_,[],by simp,rfl,Nat.zero_le _,by simp,⟨λ_ _ _=>rfl,Nat.le_refl _⟩,h0⟩
 case round=>
  obtain⟨j,k,o,rfl,rfl,au,h,c,m⟩:=hrel
  have s:o.length=j:=by
   have:=congrArg List.length h;rw[Le,Un,Un]at this;omega
  have q:=Lh h;have y:=Lh s;have ao:=c.row u g1 g3;clear h s h0;by_cases aq:j<n
  ·obtain⟨fn,ar,af,ap,hy,hR⟩:=HY.out _ k _ m (by have:=y.out;have:=Hn.out;omega);have HR:=Lh hR;clear hR m;gi_wp2;refine⟨rfl,HR.out.mono ?_⟩;rintro e W' (⟨rfl,m,hk⟩|⟨rfl,am⟩);rotate_left
   ·clear hy;gi_wp2;refine bodyPost_ret (results_none rfl _ _ _) rfl ?_;exact⟨⟨_,rfl⟩,.inr ⟨_,trivial,am⟩⟩
   have c:=c.trans hk;have ae:=c.row u g1 g3;have c1:=ae.cellv (i:=0) (v:=.slice (some z) l.length cap) rfl;have aa:Rd W' (some z) (l.flatMap Nd.cells):=ai.out.keeps g5 g6 al c;have ag:=Lh aa;clear hy ao aa;gi_wp2;refine⟨trivial,rfl,(callsIn_wide.2 (JH (some z) cap l k W' ag.out hl)).mono ?_⟩;rintro e w3 ⟨rfl,b3⟩;have m:=QI HJ.out m b3;have c:=c.trans (⟨λi hi _=>b3.block i (by have:=hk.size;have:=c.size;omega),b3.size⟩:Keeps lim G W' w3);clear b3 c1;gi_wp2;go_roundw
   case rel=>
    refine⟨j+1,_,_,by go_num,rfl,by omega,?_,c,m⟩;rw[<-q.out,show n-j=(n-(j+1))+1 by omega,Zx];simp
   case measure=>simp[intOf];omega
  ·obtain rfl:j=n:=by omega
   gi_wp2;go_end0
   refine⟨⟨_,rfl⟩,.inl ⟨_,?_,m⟩⟩;have:=q.out;rw[N3]at this;rw[Hn.out, <-this];simp[Zx]
end Go.Proofs.YtkoikjnlpifbjaaGreat
namespace Go.Proofs.YtkoikjnlpifbjaaGreat
open Go.RowKit Go.Deep
attribute [local go_sem] Oper.semAt_some
theorem Jc:(Tryz.prog.info? 3).map (λi=>(i.zero,i.size,i.bytes))=some (some (.int .i64 0),1,8):=by kernel_rfl
def Qi (l:List Int):List Value:=l.map (Value.int .i64)
theorem JZ (l:List Int):(Qi l).length=l.length:=by simp[Qi]
theorem JY (a b:List Int):Qi (a++b)=Qi a++Qi b:=by simp[Qi]
theorem Jn (l:List Int):∀u∈Qi l,u.oneCell'=true:=by
 intro u c;simp only[Qi,LK]at c;obtain⟨x,_,rfl⟩:=c;rfl
theorem QQ{w:World}{base size n g:Nat}{e:TypeId}{v:Value}{xs:List Value}(h:w.ownsRow base e size v n xs)(hv:v.ownBlock=some g):base<=g:=by
 rcases h.2 with⟨rfl,_⟩|⟨i,c,d,rfl,j,_⟩
 ·simp[Value.ownBlock]at hv
 ·simp[Value.ownBlock]at hv;omega
theorem QR{w:World}{base base' size n:Nat}{e:TypeId}{v:Value}{xs:List Value}(h:w.ownsRow base e size v n xs)(hb:base'<=base):w.ownsRow base' e size v n xs:=by
 refine⟨h.1,?_⟩;rcases h.2 with i|⟨g,c,d,rfl,j,k⟩
 ·exact .inl i
 ·exact .inr ⟨g,c,d,rfl,Ld hb j,k⟩
structure KidsFn (A:Option Addr)(cap:Nat)(l:List Nd)(p:Int)(w w':World)(e:Ending):Prop where
 ex:∃bl ba,e=.returned (.func (.func 173) #[] #[.pointer (some ⟨ba,0,none⟩),.pointer (some ⟨bl,0,none⟩)])/\Row w' bl 23 #[.slice A l.length cap]/\Row w' ba 3 #[.int .i64 p]/\w.heap.size<=bl/\w.heap.size<=ba/\Below w.heap.size w w'
theorem ET (A:Option Addr)(cap:Nat)(l:List Nd)(p:Int)(w:World):Calls Tryz.prog 138 #[.slice A l.length cap,.int .i64 p] w λe w'=>KidsFn A cap l p w w' e:=by
 go_enter Tryz.func138,Tryz.ntmps138
 go_wp2_with (refine Qq _ _ rfl ?_)
 refine Stop.to ?_;refine Qe rfl 23 _ rfl #[.slice A l.length cap] rfl ?_;intro n s g j d;go_wp2_with (refine Qq _ _ rfl ?_)
 refine Stop.to ?_;refine Qe rfl 3 _ rfl #[.int .i64 p] rfl ?_;intro m t c q h;have k:=j.below h (Lg j.lt c);have i:=((Below.refl w.heap.size w).trans (d.mono g)).trans ((h.mono c).mono d.size |>.mono (by have:=d.size;omega));have o:w.heap.size<=m:=by have:=d.size;omega
 clear j d h c;go_wp2
 go_ret
 exact⟨n,m,rfl,k,q,g,o,i⟩
structure IntsR (xs:List Int)(w w':World)(e:Ending):Prop where
 ex:∃v,e=.returned v/\w'.ownsRow w.heap.size 3 1 v xs.length (Qi xs)/\Below w.heap.size w w'
theorem UF (A:Option Addr)(cap:Nat)(l:List Nd)(at_:Int)(w:World)(hr:Rd w A (l.flatMap Nd.cells))(hl:l.length<=1000):
 Calls Tryz.prog 133 #[.slice A l.length cap,.int .i64 at_] w λe w'=>IntsR (kidsZ l at_) w w' e:=by
 obtain⟨i0,am,ap,aq,ar⟩:=info_parts Jc;have He:=JH A cap l at_ w hr hl;have Hr:=Lh hr;have Hl:=Lh hl;clear hr hl;by_cases z:endZ l at_<0
 ·have Hk:Hid (kidsZ l at_=[]):=by show _=_;unfold kidsZ;rw[if_pos z]
  go_enter Tryz.func133,Tryz.ntmps133
  go_wp2_with fail
  refine He.mono ?_;rintro e w1 ⟨rfl,b1⟩;clear He;go_wp2
  go_ret
  exact⟨_,rfl,by rw[Hk.out];exact World.ownsRow_nil _ _ _ _,b1⟩
 obtain⟨t,u,ao⟩:=Ue (by omega:0<=endZ l at_);obtain⟨p,rfl⟩:∃p:Nat,at_=(p:Int):=⟨at_.toNat,by omega⟩;rw[Ln]at u;have Hx:=Lh u.root
 have Hk:Hid (kidsZ l (p:Int)=Zx l (Qv t.root).toNat (p+1)):=by
  show _=_;unfold kidsZ;rw[if_neg z,Ln,u.root];rfl
 have an:0<=endZ l (p:Int):=by omega
 have au:decide (endZ l (p:Int)<0)=false:=by simp;omega
 have hb:=JT t.root;clear u ao z;refine(callsIn_wide (n:=0)).1 ?_;refine callsIn_of_wp_marks Tryz.func133 rfl trivial ?_;simp only[Tryz.ntmps133,Lk,Lc,Lo,Nat.reduceAdd,Nat.reduceSub,Li,Lj,Lp,L5,Lm,Ll];gi_wp2_with fail
 refine⟨trivial,rfl,(callsIn_wide.2 He).mono ?_⟩;rintro e w1 ⟨rfl,b1⟩;clear He;have ad:Hid (Rd w1 A (l.flatMap Nd.cells)):=Hr.out.go b1;gi_wp2_with fail
 have rg:=Row.new w1 22 #[.slice none 0 0];have b2:=b1.alloc b1.size (.cells #[.slice none 0 0] 22);have ab:Hid (Rd (w1.alloc (.cells #[.slice none 0 0] 22)) A (l.flatMap Nd.cells)):=St.alloc (S:=λW=>Rd W A (l.flatMap Nd.cells)) ad.out _;have lg:w1.heap.size<(w1.alloc (.cells #[.slice none 0 0] 22)).heap.size:=rg.lt;have gG:w.heap.size<=w1.heap.size:=b1.size;generalize w1.alloc (.cells #[.slice none 0 0] 22)=w2 at rg b2 lg ab|-;generalize w1.heap.size=G at rg lg gG|-;clear b1 ad;refine⟨trivial,rfl,(callsIn_wide.2 (ET A cap l (p:Int) w2)).mono ?_⟩;rintro e w3 ⟨bl,ba,rfl,rl,ra,al,ak,b3⟩;have ah:=rg.below b3 rg.lt;have ai:Hid (Rd w3 A (l.flatMap Nd.cells)):=ab.out.go b3;have af:=b2.trans (b3.mono b2.size);obtain⟨d,g⟩:∃d,d=w3.heap.size:=⟨_,rfl⟩;have l1:bl<d:=by rw[g];exact rl.lt
 have l2:ba<d:=by rw[g];exact ra.lt
 have l3:G<d:=by rw[g];exact ah.lt
 have l4:w.heap.size<=d:=by rw[g];exact af.size
 have l5:bl≠G:=by omega
 have l6:ba≠G:=by omega
 have q:=Lh g;have ae:=Lh (AeZ bl ba d G A cap l p t.root w w3 Hr.out ai.out Hl.out Hx.out rl ra l1 l2 l5 l6 l4 gG (LD g));clear rg b2 b3 lg al ak g rl ra ab;gi_wp2
 refine Acd (gf:=173) (lb:=#[.pointer (some ⟨ba,0,none⟩),.pointer (some ⟨bl,0,none⟩)]) rfl (enters_of Tryz.func173 (by kernel_rfl) rfl) ae.out (λr h=>h.elim)
  (λh k=>h.trans k) (λW m o o' hm ho hc=>⟨λk hk _=>by rw[World.putObj_heap_other (by have:=q.out;omega)],by simp⟩) (World.grownBy.refl _ _) (λ_=>rfl)
  (λj W=>∃v,Row W G 22 #[v]/\W.ownsRow d 3 1 v j.length (Qi j)/\Below w.heap.size w W/\d<=W.heap.size) (λ_ _ _=>False) ?hI ?hIx ⟨_,ah,World.ownsRow_nil _ _ _ _,af,LD q.out⟩
  (λx a' W=>a'={ tmps:=#[.slice A l.length cap,.int .i64 (p:Int),undef,undef,.slice none 0 0,.pointer (some ⟨G,0,none⟩),.int .i64 x,.slice A l.length cap,.int .i64 (p:Int),.int .i64 (endZ l (p:Int)),.bool false,.slice A l.length cap,.int .i64 (p:Int),.func (.func 173) #[] #[.pointer (some ⟨ba,0,none⟩),.pointer (some ⟨bl,0,none⟩)],.int .i64 x,undef,undef,undef,undef,undef],defers:=[] }) ?hAx ?assign ?body ?done ?stop
 case hI=>
  rintro j X Y row ⟨v,h1,h2,h3,h4⟩ y hr
  have aa:∀r,row=some r->d<=r/\v.ownBlock≠some r:=λr e=>by
   rcases hr r e with h|⟨h,o,ho,hc⟩
   ·exact h.elim
   ·exact⟨by have:=q.out;omega,Jd h2 ho hc⟩
  refine⟨v,h1.grown y (λe=>by have:=(aa G e).1;omega),h2.kept y ?_,h3.grown y h3.size (λk e=>by have:=(aa k e).1;omega),Ld h4 y.size⟩;cases row with
  |none=>cases v.ownBlock<;>simp
  |some r=>exact .inr (aa r rfl).2
 case hIx=>exact λ_ _ _ _ _ h _ _=>h
 case hAx=>exact λx a' _ _ _ _ h _ _=>h
 case assign=>
  rintro lb j x W K hI hK;have HK:=Lh hK;clear hK;gi_wp2;exact HK.out _ _ (KeepsFrom.refl _ _) ⟨λ_ _ _=>rfl,Nat.le_refl _⟩ hI rfl
 case body=>
  rintro lb j x a' W ay _ ⟨v,h1,h2,h3,h4⟩ rfl az;have av:j.length<300:=by omega
  have hc:=h1.cellv (i:=0) (v:=v) rfl;have hf:=h1.free 0;have ha:=h2.alloc (.cells #[.int .i64 x] 3);have HA:=Lh ha;clear ha;gi_wp2_with (gi_at_builtin;refine wpListIn_append_own_at _ rfl (.tmp 15) (.tmp 17) 22 rfl d 3 i0 (.int .i64 0) 1 8 Tryz.underlying22 am ap aq ar rfl (by decide) v j.length (Qi j) rfl HA.out ⟨W.heap.size,0,none⟩ 1 1 (Qi [x]) rfl rfl (Z9 _ _ _) (Jn _) (by unfold maxLen;omega) (by omega) (by simp;omega) ?_);intro v' W3 s y _ u;have r3:=(h1.alloc (.cells #[.int .i64 x] 3)).grown y (Qz HA.out (h1.alloc _) (by decide));have b3:=QL (h3.alloc h3.size _) HA.out y (by have:=h3.size;simp;omega) l4;have k3:KeepsFrom w3.heap.size W W3:=(KeepsFrom.alloc _ W (.cells #[.int .i64 x] 3)).trans (KeepsFrom.of_own HA.out y);have kp:Keeps d G W W3:=⟨λk hk _=>(y.block k (by simp;omega) (λe=>by have:=QQ HA.out e.symm;omega)).trans (Below.heap_alloc _ _ _ (by omega)),by have:=y.size;simp at this;omega⟩;have s3:d<=W3.heap.size:=Ld h4 kp.size;obtain⟨A',m',c',rfl⟩:∃A m c,v'=.slice A m c:=ZC s;have aw:=r3.cellv (i:=0) (v:=v) rfl;have ax:=r3.free 0;have nG:=Qz s r3 (by decide);have ac:=Lh s;clear s y u hc hf;gi_wp2;have o4:=Zl W3 G 0 (.slice A' m' c');refine⟨k3.trans (KeepsFrom.of_only r3 o4),kp.trans ⟨λk _ hk=>o4.block k hk,LD o4.size.symm⟩,_,r3.set 0 _,?_,Qp b3 o4 gG,Ld s3 (LD o4.size.symm)⟩;have:=Qx ac.out o4 nG;rw[<-JY]at this;simpa using this
 case stop=>exact λD c j W _ _ h _=>h.elim
 case done=>
  rintro D ys W hD ag ⟨v,h1,h2,h3,h4⟩ hK;have aj:=Lh ag;have hc:=h1.cellv (i:=0) (v:=v) rfl;have HK:=Lh hK;clear hK ag;gi_wp2;refine⟨by simp,.inl ⟨_,_,rfl,run_takeDeferred HK.out,?_⟩⟩;refine⟨_,results_tmp rfl _ _ _,v,rfl,?_,h3.grown (grownBy_putObj' _ _ _) h3.size (λk e=>by cases e;have:=q.out;omega)⟩;rw[Hk.out, <-aj.out];exact QR ((h2.kept (grownBy_putObj' _ _ _) (.inr (Jd h2 HK.out rfl)))) l4
end Go.Proofs.YtkoikjnlpifbjaaGreat
namespace Go.Proofs.YtkoikjnlpifbjaaGreat
open Go.RowKit Go.Deep
theorem Aa0{t n:Int}(h:¬(1<=t/\t<=26)):Qv ⟨t,n⟩= -1:=by
 unfold Qv;rw[if_neg (by dsimp only;omega)]
 have:Q9 ⟨t,n⟩=(-1, -1):=by
  unfold Q9;dsimp only
  repeat(first|rw[if_pos (by omega)]|rw[if_neg (by omega)])
 rw[this];split<;>rfl
theorem KS (t:Int)(w:World)(ht:InI t):Calls Tryz.prog 97 #[.int .i64 t] w λe w'=>e=.returned (.int .i64 (QC t))/\w=w':=by
 unfold InI at ht;by_cases h:2<=t/\t<=9
 ·obtain⟨g,c⟩:=h;have d:Hid (QC t=t-1):=by show _=_;unfold QC;rw[if_pos ⟨g,c⟩]
  go_enter Tryz.func97,Tryz.ntmps97
  go_wp2
  go_ret
  exact⟨QS d.out,rfl⟩
 ·have d:Hid (QC t=0):=by show _=_;unfold QC;rw[if_neg h]
  have c:t<2\/9<t:=by omega
  clear h;rcases c with c|c
  all_goals
   go_enter Tryz.func97,Tryz.ntmps97
   go_wp2
   go_ret
   exact⟨QS d.out,rfl⟩
structure PgV where
 params:Int
 va:Option Addr
 vcap:Nat
 V:List Int
 ba:Option Addr
 bcap:Nat
 body:List Nd
def PgV.cells (p:PgV):Array Value:=#[.int .i64 p.params,.slice p.va p.V.length p.vcap,.slice p.ba p.body.length p.bcap]
structure PgV.ok (p:PgV)(w:World):Prop where
 par:InI p.params
 vlen:p.V.length<=p.vcap
 vmax:p.vcap<=maxLen
 vnil:p.va=none->p.vcap=0
 vrd:Rd w p.va (Qi p.V)
 vin:∀t∈p.V,InI t
 blen:p.body.length<=p.bcap
 bmax:p.bcap<=maxLen
 bnil:p.ba=none->p.bcap=0
 brd:Rd w p.ba (p.body.flatMap Nd.cells)
 bin:∀x∈p.body,InI x.tag/\InI x.n
theorem PgV.ok.go{p:PgV}{w w':World}(h:p.ok w)(b:Below w.heap.size w w'):p.ok w':=
 ⟨h.par,h.vlen,h.vmax,h.vnil,h.vrd.go b,h.vin,h.blen,h.bmax,h.bnil,h.brd.go b,h.bin⟩
instance St.pgok{p:PgV}:St (λW=>p.ok W):=⟨λh b=>h.go b⟩
theorem Zg{w:World}{A:Option Addr}{l:List Int}(hr:Rd w A (Qi l)){k:Nat}{x:Int}(hx:l[k]? =some x):∃ad,A=some ad/\w.cell? (ad.add k)=some (.int .i64 x):=
 hr k _ (by simp[Qi,hx])
def Yp (params:Int)(j:Nat)(t:Int):Bool:=decide (t=0\/(params<=j/\1<=t/\t<=9))
def Xt (params:Int)(V:List Int):Prop:=0<=params/\params<=V.length/\V.length<=12/\∀j,j<V.length->Yp params j (V.getD j 0)=true
instance (params:Int)(V:List Int):Decidable (Xt params V):=by unfold Xt;infer_instance
def JB (params:Int)(V:List Int):Int:=if Xt params V then 0 else 14
theorem AaA{params:Int}{V:List Int}(h:params<0\/(V.length:Int)<params\/12<(V.length:Int)):JB params V=14:=by
 unfold JB;rw[if_neg];unfold Xt;omega
theorem Aho{params:Int}{V:List Int}{j:Nat}{t:Int}(hj:V[j]? =some t)(h:Yp params j t=false):JB params V=14:=by
 unfold JB;rw[if_neg];rintro⟨_,_,_,c⟩;have:=c j (La.1 hj).1;rw[LJ,hj,LL,h]at this;cases this
theorem Ai7{params:Int}{V:List Int}(h1:0<=params)(h2:params<=V.length)(h3:(V.length:Int)<=12)(h:∀j,j<V.length->Yp params j (V.getD j 0)=true):JB params V=0:=by
 unfold JB;rw[if_pos ⟨h1,h2,by omega,h⟩]
theorem Ul{params:Int}{V:List Int}{k:Nat}{t:Int}(h:∀j,j<k->Yp params j (V.getD j 0)=true)(hk:V[k]? =some t)(ht:Yp params k t=true):∀j,j<k+1->Yp params j (V.getD j 0)=true:=λj hj=>by
 by_cases e:j=k
 ·subst e;rw[LJ,hk];exact ht
 ·exact h j (by omega)
theorem Aeh (p:PgV)(w:World)(hok:p.ok w):Calls Tryz.prog 61 #[.agg p.cells] w λe w'=>e=.returned (.int .i64 (JB p.params p.V))/\Below w.heap.size w w':=by
 have o:=Lh hok;clear hok;obtain⟨params,va,g,V,ba,m,n⟩:=p;dsimp only;rw[show(PgV.mk params va g V ba m n).cells=#[.int .i64 params,.slice va V.length g,.slice ba n.length m]from rfl];go_enter Tryz.func61,Tryz.ntmps61
 go_wp2_with (refine Qq _ _ rfl ?_)
 refine Stop.to ?_;refine Qe rfl 25 _ rfl #[.int .i64 params,.slice va V.length g,.slice ba n.length m] rfl ?_;intro G w1 hG r1 q;have q:=(Below.refl w.heap.size w).trans (q.mono hG);have x:=o.out.go q;have c0:=r1.cellv (i:=0) (v:=.int .i64 params) rfl;have c1:=r1.cellv (i:=1) (v:=.slice va V.length g) rfl;have ah:=x.vrd;have ac:=Lh ah;have ab:=Lh o.out.vin;have y:=o.out.par;unfold InI at y;dsimp only at ac ab y;clear hG x ah r1 o;by_cases h0:params<0
 ·have l:=Lh (AaA (V:=V) (.inl h0));go_wp2
  go_ret
  exact⟨QS l.out,q⟩
 by_cases u:(V.length:Int)<params
 ·have l:=Lh (AaA (V:=V) (.inr (.inl u)));have z:0<=params:=by omega
  go_wp2
  go_ret
  exact⟨QS l.out,q⟩
 by_cases h2:12<(V.length:Int)
 ·have l:=Lh (AaA (params:=params) (V:=V) (.inr (.inr h2)));have z:0<=params:=by omega
  have ae:params<=(V.length:Int):=by omega
  clear h0 u;go_wp2
  go_ret
  exact⟨QS l.out,q⟩
 have z:0<=params:=by omega
 have ae:params<=(V.length:Int):=by omega
 have ai:(V.length:Int)<=12:=by omega
 clear h0 u h2;go_wp2
 go_loop [25] (λi=>∃k:Nat,i=.int .i64 (k:Int)/\k<=V.length/\Hid (∀j,j<k->Yp params j (V.getD j 0)=true)) (λi=>V.length-(intOf i).toNat)
 case atStart=>exact⟨0,rfl,Nat.zero_le _,Lh (λj h=>by omega)⟩
 case round=>
  obtain⟨k,rfl,hk,d⟩:=hrel;by_cases ag:k<V.length
  ·obtain⟨t,ht⟩:∃t,V[k]? =some t:=⟨_,Lb ag⟩;obtain⟨ad,aj,hc⟩:=Zg ac.out ht;have af:=ab.out t (Lf ht);have s:=Lh af;unfold InI at af;have Ht:=Lh ht;have am:(k:Int)<(V.length:Int):=by omega
   clear ht ag;subst aj;by_cases c:Yp params k t=true
   ·have Hg:=Lh c;simp only[Yp,decide_eq_true_eq]at c;have l:t=0\/(t≠0/\(params<=k/\1<=t/\t<=9)):=by omega
    clear c;rcases l with rfl|⟨aa,ao,ap,aq⟩
    ·go_wp2
     go_round
     case rel=>exact⟨k+1,by go_num,by omega,Lh (Ul d.out Ht.out Hg.out)⟩
     case measure=>simp[intOf];omega
    ·have e0:(t != 0)=true:=by simpa using aa
     by_cases u:t=1
     ·have e1:(t != 1)=false:=by simpa using u
      clear aa u;go_wp2
      go_round
      case rel=>exact⟨k+1,by go_num,by omega,Lh (Ul d.out Ht.out Hg.out)⟩
      case measure=>simp[intOf];omega
     ·have e1:(t != 1)=true:=by simpa using u
      have e2:(QC t==0)=false:=by simp[QC];omega
      clear aa u;go_wp2_with (go_at_call 97;refine(KS t _ s.out).mono ?_;rintro e w' ⟨rfl,rfl⟩)
      go_round
      case rel=>exact⟨k+1,by go_num,by omega,Lh (Ul d.out Ht.out Hg.out)⟩
      case measure=>simp[intOf];omega
   ·have l:=Lh (Aho Ht.out (by simpa using c));simp only[Yp,decide_eq_true_eq]at c;have e0:(t != 0)=true:=by simp;omega
    by_cases ak:(k:Int)<params
    ·clear c;go_wp2
     go_ret
     exact⟨QS l.out,q⟩
    ·have al:params<=(k:Int):=by omega
     have e1:(t != 1)=true:=by simp;omega
     have e2:QC t=0:=by unfold QC;rw[if_neg (by omega)]
     have E2:=Lh e2;clear c ak e2;go_wp2_with (go_at_call 97;refine(KS t _ s.out).mono ?_;rintro e w' ⟨rfl,rfl⟩;rw[E2.out])
     go_ret
     exact⟨QS l.out,q⟩
  ·have an:(V.length:Int)<=(k:Int):=by omega
   obtain rfl:k=V.length:=by omega
   have l:=Lh (Ai7 z ae ai d.out);go_wp2
   go_ret
   exact⟨QS l.out,q⟩
def AgI (p:PgV):Bool:=decide (p.body.length<=60/\p.V.length<=20)
theorem AjQ (p:PgV)(w:World):Calls Tryz.prog 58 #[.agg p.cells] w λe w'=>e=.returned (.bool (AgI p))/\Below w.heap.size w w':=by
 obtain⟨d,m,j,V,l,g,c⟩:=p;rw[show(PgV.mk d m j V l g c).cells=#[.int .i64 d,.slice m V.length j,.slice l c.length g]from rfl];have t:Hid (AgI ⟨d,m,j,V,l,g,c⟩=decide (c.length<=60/\V.length<=20)):=by show _=_;rfl
 go_enter Tryz.func58,Tryz.ntmps58
 go_wp2_with (refine Qq _ _ rfl ?_)
 refine Stop.to ?_;refine Qe rfl 25 _ rfl #[.int .i64 d,.slice m V.length j,.slice l c.length g] rfl ?_;intro G w1 x u k;have k:=(Below.refl w.heap.size w).trans (k.mono x);have c1:=u.cellv (i:=1) (v:=.slice m V.length j) rfl;have c2:=u.cellv (i:=2) (v:=.slice l c.length g) rfl;clear x u;by_cases n:c.length<=60
 ·have o:(c.length:Int)<=60:=by omega
  by_cases q:V.length<=20
  ·have s:(V.length:Int)<=20:=by omega
   go_wp2
   go_ret
   exact⟨Kg (t.out.trans (decide_eq_true ⟨n,q⟩)),k⟩
  ·have s:20<(V.length:Int):=by omega
   have z:=Lh q;clear q;go_wp2
   go_ret
   exact⟨Kg (t.out.trans (by simp[n];omega)),k⟩
 ·have o:60<(c.length:Int):=by omega
  have y:=Lh n;clear n;go_wp2
  go_ret
  exact⟨Kg (t.out.trans (decide_eq_false (λh:c.length<=60/\V.length<=20=>y.out h.1))),k⟩
def KX (l:List Nat):List Int:=l.map λn:Nat=>(n:Int)
theorem Abv (l:List Nat):(KX l).length=l.length:=by simp[KX]
end Go.Proofs.YtkoikjnlpifbjaaGreat
namespace Go.Proofs.YtkoikjnlpifbjaaGreat
end Go.Proofs.YtkoikjnlpifbjaaGreat
