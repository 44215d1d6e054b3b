/- Lemmas for RunnerKillsP. -/
import Derived.Test.YtkoikjnlpifbjaaGreatZk24
import Derived.Test.YtkoikjnlpifbjaaGreatZk8
import Derived.Test.YtkoikjnlpifbjaaGreatZk29
import Derived.Test.YtkoikjnlpifbjaaGreatZk2
import Derived.Test.YtkoikjnlpifbjaaGreatZk1
import Derived.BigFrameIn
import Derived.Deep.WholeRow
import Derived.Deep.Cut
import Derived.Deep.RegionHeld3
import Derived.Laws.EntriesVeiled
import Derived.Test.YtkoikjnlpifbjaaGreatRows
set_option linter.unusedVariables false
set_option linter.unusedSimpArgs false
set_option maxRecDepth 100000
set_option maxHeartbeats 16000000
namespace Go.Proofs.YtkoikjnlpifbjaaGreat
open Go.RowKit Go.Deep
attribute [local go_sem] Oper.semAt_some
def EvV.nums (e:EvV):List Int:=[e.var,e.at_,e.val]
def RunV.nums (r:RunV):List Int:=r.evs.flatMap EvV.nums++[r.kind,r.value]
theorem AdQ:∀l:List EvV,(l.flatMap EvV.nums).length=3*l.length
 |[]=>rfl
 |a::l=>by have:=AdQ l;simp only[L8,Le,Lc];rw[this];simp[EvV.nums];omega
abbrev Alk:={ x:Int // InI x }
theorem AaP (bs:Nat)(r:RunV)(Kp:World->World->Prop)(w:World)(hok:r.ok w)(hrow:Row w bs 114 r.cells)(hl:r.evs.length<=1000000)
 (hRun:∀A B,Kp A B->Row A bs 114 r.cells->Row B bs 114 r.cells) (hRd:∀A B,Kp A B->Rd A r.addr (r.evs.flatMap EvV.cells)->Rd B r.addr (r.evs.flatMap EvV.cells))
 (hSz:∀A B,Kp A B->A.heap.size<=B.heap.size) (hEv:∀A B k cs,w.heap.size<=k->Kp A B->Row A k 263 cs->Row B k 263 cs):
 AcI Tryz.prog 161 #[.pointer (some ⟨bs,0,none⟩)] (λx:Alk=>#[.int .i64 x.1]) (λ_=>False) Kp (λxs=>xs.map (·.1)=r.nums) (λ_=>True) (3*r.evs.length+2) w:=by
 intro l J Jx W _ y hJ ay hY h0;have af:Below w.heap.size w W:=⟨y.os,y.tape,y.output,y.size,λk j=>y.block k j (by simp)⟩;have ao:=hrow.below af hrow.lt;have au:=hok.reads.go af;have am:=Lh hok;have n:=Lh hRun;have ak:=Lh hRd;have aj:=Lh hEv;have al:=Lh hSz;have ah:=af.size;have HJ:=Lh hJ;have HY:=Lh hY;have Hl:=Lh hl;clear hrow y hok hRun hRd hEv hSz hJ ay hY af hl;have az:=ao.cellv (i:=3) (v:=.slice r.addr r.evs.length r.cap) rfl;refine callsIn_of_wp Tryz.func161 rfl trivial ?_ rfl;simp only[Tryz.ntmps161,Lk,Lc,Lo,Nat.reduceAdd,Nat.reduceSub,Li,Lj,Lp,L5,Lm,Ll];gi_wp2;gi_loopw [8] (λi wr=>∃(k:Nat) (ae:List Alk),i=.int .i64 (k:Int)/\k<=r.evs.length/\Row wr bs 114 r.cells/\Rd wr r.addr (r.evs.flatMap EvV.cells)/\ae.map (·.1)=(r.evs.take k).flatMap EvV.nums/\w.heap.size<=wr.heap.size/\J ae wr) (λi _=>r.evs.length-(intOf i).toNat)
 case atStart=>exact⟨0,[],by simp,Nat.zero_le _,ao,au,by simp,ah,h0⟩
 case round=>
  clear ao au az h0 ah;obtain⟨k,ae,rfl,j,q,z,ac,ah,d⟩:=hrel
  have a1:ae.length=3*k:=by
   have:=congrArg List.length ac;rw[Lu,AdQ,L1]at this;omega
  have ai:=Lh ac;clear ac;by_cases ag:k<r.evs.length
  ·obtain⟨e,he⟩:∃e,r.evs[k]? =some e:=⟨_,Lb ag⟩;obtain⟨ad,an,ar⟩:=z.part (k*3) e.cells (EI r.evs k e he) (by simp[EvV.cells]);have He:=Lh he;have ax:=Lh ar;have a2:(k:Int)<(r.evs.length:Int):=by omega
   have a3:=Hl.out;clear he ar;rw[an];have aw:=Lh an;clear an;have aq:Hid (e.cells.toArray.all (·.oneCell')=true):=by show _=true;simp[EvV.cells,Value.oneCell']
   gi_wp2_with (first
    | (refine Je rfl 263 _ rfl (ad.add (k*3)) rfl e.cells _ ax.out Tryz.underlying263 rfl (by kernel_rfl) ?_)
    | (refine Ab0 _ _ _ rfl ?_))
   refine Stop.to ?_;refine Zd rfl 263 _ _ rfl wr.heap.size e.cells.toArray rfl rfl 263 _ (heap_alloc_new wr _) (by kernel_rfl) rfl aq.out ?_;rw[World.setRow_alloc_new];have rx:=Row.new wr 263 e.cells.toArray;have q:=q.alloc (.cells e.cells.toArray 263);have z:=St.alloc (S:=λW=>Rd W r.addr (r.evs.flatMap EvV.cells)) z (.cells e.cells.toArray 263);have d:=HJ.out _ _ _ none d (World.grownBy_alloc wr (.cells e.cells.toArray 263) none) (λr e=>by cases e);have ab:ae.length+3<=3*r.evs.length:=by omega
   have aa:Hid e.ok:=am.out.evs e (Lf He.out);clear a1;have c:w.heap.size<=(wr.alloc (.cells e.cells.toArray 263)).heap.size:=by simp;omega
   generalize wr.alloc (.cells e.cells.toArray 263)=w2 at rx q z d c|-;obtain⟨gx,av⟩:∃gx,gx=wr.heap.size:=⟨_,rfl⟩;have ap:w.heap.size<=gx:=by omega
   rw[<-av]at rx|-;clear av ah;have c0:=rx.cellv (i:=0) (v:=.int .i64 e.var) rfl;obtain⟨fn,t,g,o,s,p⟩:=HY.out _ ⟨e.var,aa.out.1⟩ w2 d (by have:=ab;(try simp only[Le,Lc,Lo]);omega)
   have u:=Lh p;have Hj:=Lh d;clear p d;gi_wp2;refine⟨rfl,u.out.mono ?_⟩;rintro e' w3 (⟨rfl,d,j⟩|⟨rfl,m⟩);rotate_left
   ·clear s c0;gi_wp2;refine⟨λ_ h=>(by cases h),?_⟩;gi_wp2;refine bodyPost_ret (results_none rfl _ _ _) rfl ?_;exact⟨⟨_,rfl⟩,.inr ⟨_,trivial,m⟩⟩
   have rx:=aj.out _ _ _ _ ap j rx;have c:=Ld c (al.out _ _ j);have q:=n.out _ _ j q;have z:=ak.out _ _ j z;clear s c0 u Hj;have c1:=rx.cellv (i:=1) (v:=.int .i64 e.at_) rfl;obtain⟨fn,t,g,o,s,p⟩:=HY.out _ ⟨e.at_,aa.out.2.1⟩ w3 d (by have:=ab;(try simp only[Le,Lc,Lo]);omega)
   have u:=Lh p;have Hj:=Lh d;clear p d;gi_wp2;refine⟨rfl,u.out.mono ?_⟩;rintro e' w4 (⟨rfl,d,j⟩|⟨rfl,m⟩);rotate_left
   ·clear s c1;gi_wp2;refine⟨λ_ h=>(by cases h),?_⟩;gi_wp2;refine bodyPost_ret (results_none rfl _ _ _) rfl ?_;exact⟨⟨_,rfl⟩,.inr ⟨_,trivial,m⟩⟩
   have rx:=aj.out _ _ _ _ ap j rx;have c:=Ld c (al.out _ _ j);have q:=n.out _ _ j q;have z:=ak.out _ _ j z;clear s c1 u Hj;have c2:=rx.cellv (i:=2) (v:=.int .i64 e.val) rfl;obtain⟨fn,t,g,o,s,p⟩:=HY.out _ ⟨e.val,aa.out.2.2⟩ w4 d (by have:=ab;(try simp only[Le,Lc,Lo]);omega)
   have u:=Lh p;have Hj:=Lh d;clear p d;gi_wp2;refine⟨rfl,u.out.mono ?_⟩;rintro e' w5 (⟨rfl,d,j⟩|⟨rfl,m⟩);rotate_left
   ·clear s c2;gi_wp2;refine bodyPost_ret (results_none rfl _ _ _) rfl ?_;exact⟨⟨_,rfl⟩,.inr ⟨_,trivial,m⟩⟩
   have rx:=aj.out _ _ _ _ ap j rx;have c:=Ld c (al.out _ _ j);have q:=n.out _ _ j q;have z:=ak.out _ _ j z;clear s c2 u Hj;gi_wp2;go_roundw
   case rel=>
    refine⟨k+1,_,by go_num,by omega,q,by have:=z;rw[aw.out]at this;exact this,?_,c,d⟩;rw[Nx ag,L6];have a0:r.evs[k]=e:=by have:=He.out;rw[Lb ag]at this;injection this
    rw[a0];simp[EvV.nums,ai.out]
   case measure=>simp[intOf];omega
  ·obtain rfl:k=r.evs.length:=by omega
   have c0:=q.cellv (i:=0) (v:=.int .i64 r.kind) rfl;obtain⟨fn,t,g,o,s,p⟩:=HY.out _ ⟨r.kind,am.out.kind⟩ wr d (by omega);have u:=Lh p;have Hj:=Lh d;clear p d ag;gi_wp2;refine⟨rfl,u.out.mono ?_⟩;rintro e' w3 (⟨rfl,d,j⟩|⟨rfl,m⟩);rotate_left
   ·clear s c0;gi_wp2;go_end0
    exact⟨⟨_,rfl⟩,.inr ⟨_,trivial,m⟩⟩
   have q:=n.out _ _ j q;clear s c0 u Hj z;have c1:=q.cellv (i:=1) (v:=.int .i64 r.value) rfl;obtain⟨fn,t,g,o,s,p⟩:=HY.out _ ⟨r.value,am.out.value⟩ w3 d (by rw[Le,Nf];omega);have u:=Lh p;have Hj:=Lh d;clear p d;gi_wp2;refine⟨rfl,u.out.mono ?_⟩;rintro e' w4 (⟨rfl,d,j⟩|⟨rfl,m⟩)
   ·clear s c1;gi_wp2;go_end0
    exact⟨⟨_,rfl⟩,.inl ⟨_,by have:=ai.out;rw[LT]at this;simp[RunV.nums,this],d⟩⟩
   ·clear s c1;gi_wp2;go_end0
    exact⟨⟨_,rfl⟩,.inr ⟨_,trivial,m⟩⟩
end Go.Proofs.YtkoikjnlpifbjaaGreat
namespace Go.Proofs.YtkoikjnlpifbjaaGreat
open Go.RowKit Go.Deep
attribute [local go_sem] Oper.semAt_some
theorem AdP (r:RunV)(w:World):
 Calls Tryz.prog 124 #[.agg r.cells] w λe w'=>e=.returned (.func (.func 161) #[] #[.pointer (some ⟨w.heap.size,0,none⟩)])/\w.alloc (.cells r.cells 114)=w':=by
 go_enter Tryz.func124,Tryz.ntmps124
 go_wp2
 go_ret
 exact⟨rfl,rfl⟩
theorem Row.abid{W W':World}{g B:Nat}{t:TypeId}{cs:Array Value}{row:Option Nat}(h:Row W g t cs)(hg:W.grownBy W' row)(hr:∀r,row=some r->False\/(B<=r/\∃o:Obj,W.heap[r]? =some o/\o.isCells=false)):Row W' g t cs:=
 h.grown hg (λe=>by
  rcases hr g e with h'|⟨_,o,ho,hc⟩
  ·exact h'
  ·rw[h]at ho;cases ho;cases hc)
theorem Wr.abid{W W':World}{b g B:Nat}{l:List UInt8}{row:Option Nat}(h:Wr W b g l)(hg:W.grownBy W' row)(hr:∀r,row=some r->False\/(B<=r/\∃o:Obj,W.heap[r]? =some o/\o.isCells=false)):Wr W' b g l:=by
 obtain⟨i,v,j,c⟩:=h;refine⟨i,v,j.abid hg hr,c.kept hg ?_⟩;cases row with
 |none=>cases v.ownBlock<;>simp
 |some r=>
  refine .inr (λe=>?_);rcases hr r rfl with d|⟨_,o,m,k⟩
  ·exact d
  ·exact Jd c m k e
def XV (l:List Int):List UInt8:=l.flatMap zz
theorem Aed (r:RunV):Vh r.evs.length++XV r.nums=Uq r.kind r.value r.evs:=by
 have h:∀l:List EvV,XV (l.flatMap EvV.nums)=l.flatMap EvV.bytes:=by
  intro l
  induction l with
  |nil=>rfl
  |cons a l ih=>simp only[XV,L8,L6]at ih|-;rw[ih];simp[EvV.nums,EvV.bytes]
 have c:XV r.nums=XV (r.evs.flatMap EvV.nums)++(zz r.kind++zz r.value):=by simp[XV,RunV.nums]
 rw[c,h,Uq]
theorem Aby:∀l:List Int,(XV l).length<=10*l.length
 |[]=>by simp[XV]
 |a::l=>by
  have:=Aby l;have:=Uu a
  simp only[XV,L8,Le,Lc]at*;omega
def WrC (b g:Nat)(A B:World):Prop:=A.heap.size<=B.heap.size/\∀k cs t fr,A.heap[k]? =some (.cells cs t fr)->k≠g->(t≠5\/k<b)->B.heap[k]? =some (.cells cs t fr)
theorem WrC.of{b g:Nat}{A B:World}(h:WrEff b g A B):WrC b g A B:=⟨h.size,λk cs t fr hk hg ht=>(h.block k (Lr.1 hk).1 hg (λcs' hB h'=>by
 rcases ht with ht|ht
 ·rw[Row,hk]at h';injection h' with h';injection h' with _ h'';exact ht h''
 ·omega)).trans hk⟩
theorem WrC.trans{b g:Nat}{A B C:World}(h:WrC b g A B)(k:WrC b g B C):WrC b g A C:=⟨Ld h.1 k.1,λi cs t fr hi hg ht=>k.2 i cs t fr (h.2 i cs t fr hi hg ht) hg ht⟩
theorem WrC.put{b g l:Nat}{W:World}{o o':Obj}(ho:W.heap[l]? =some o)(hc:o.isCells=false):WrC b g W (W.putObj l o'):=⟨by simp,λk cs t fr hk _ _=>by
 rw[World.putObj_heap_other (λe=>by subst e;rw[ho]at hk;cases hk;cases hc)];exact hk⟩
theorem WrC.refl (b g:Nat)(W:World):WrC b g W W:=⟨Nat.le_refl _,λ_ _ _ _ h _ _=>h⟩
theorem WrC.row{b g k:Nat}{A B:World}{t:TypeId}{cs:Array Value}(h:WrC b g A B)(hr:Row A k t cs)(hg:k≠g)(ht:t≠5\/k<b):Row B k t cs:=h.2 k cs t (0,0) hr hg ht
theorem AeD{W:World}{p:Addr}{u:Value}(h:W.cell? p=some u):∃cs t fr,W.heap[p.block]? =some (.cells cs t fr):=by
 unfold World.cell? at h;split at h
 ·exact⟨_,_,_,by assumption⟩
 ·cases h
theorem Akh{w W:World}{addr:Option Addr}{xs:List Value}(h:Rd w addr xs)(b:Below w.heap.size w W):Rd W addr xs:=h.go b
theorem WrC.rd{w A B:World}{b g:Nat}{addr:Option Addr}{xs:List Value}(h:WrC b g A B)(h0:Rd w addr xs)(hb:w.heap.size<=b)(hg:b<=g)(hA:Rd A addr xs):Rd B addr xs:=λj u hj=>by
 obtain⟨i,e,m⟩:=hA j u hj;obtain⟨c,k,d⟩:=h0 j u hj;obtain rfl:i=c:=by rw[e]at k;injection k
 have q:=World.block_lt_of_cell? _ _ d;obtain⟨n,t,o,l⟩:=AeD m;have p:=h.2 _ n t o l (by omega) (.inr (by omega));exact⟨i,e,(World.cell?_of_block (p.trans l.symm)).trans m⟩
theorem Aec (r:RunV)(w:World)(hok:r.ok w)(hl:r.evs.length<=10000):
 Calls Tryz.prog 82 #[r.val] w λe w'=>e=.returned (.string ⟨(Uq r.kind r.value r.evs).toArray⟩)/\Below w.heap.size w w':=by
 have d:=Lh hok;have Hl:=Lh hl;clear hok hl;refine(callsIn_wide (n:=0)).1 ?_;refine callsIn_of_wp_marks Tryz.func82 rfl trivial ?_;simp only[Tryz.ntmps82,Lk,Lc,Lo,Nat.reduceAdd,Nat.reduceSub,Li,Lj,Lp,L5,Lm,Ll];rw[show r.val=.agg r.cells from rfl];gi_wp2_with fail
 have r0:=Row.new w 114 r.cells;have b0:=(Below.refl w.heap.size w).alloc (Nat.le_refl _) (.cells r.cells 114);generalize w.alloc (.cells r.cells 114)=w1 at r0 b0|-;obtain⟨S,p⟩:∃S,S=(λW=>Row W w.heap.size 114 r.cells/\Below w.heap.size w W):=⟨_,rfl⟩;have aw:St S:=by rw[p];infer_instance
 have s0:∀W,S W->Row W w.heap.size 114 r.cells:=by rw[p];exact λW h=>h.1
 have s1:∀W,S W->Below w.heap.size w W:=by rw[p];exact λW h=>h.2
 have aj:∀W,Row W w.heap.size 114 r.cells->Below w.heap.size w W->S W:=by rw[p];exact λW h h'=>⟨h,h'⟩
 have z:S w1.drew:=St.drew (aj _ r0 b0);clear p r0 b0;refine wpIn_wide.2 ?_;refine wp_cut (λa W=>∃u g,w.heap.size<u/\S W/\Wr W u g (Vh r.evs.length)/\a={ tmps:=#[.agg r.cells,.pointer (some ⟨w.heap.size,0,none⟩),.string ⟨#[]⟩,.pointer (some ⟨g,0,none⟩),undef,undef,.pointer (some ⟨g,0,none⟩),.pointer (some ⟨w.heap.size,3,none⟩),.slice r.addr r.evs.length r.cap,.int .i64 r.evs.length,.int .u64 r.evs.length,.pointer (some ⟨g,0,none⟩),undef,undef,undef,undef,undef,undef,undef,undef,undef,undef],defers:=[] }) ?rest ?first
 case first=>
  intro J K' hJ an;have HJ:=Lh hJ;have HK:=Lh an;have a0:=Hl.out;clear hJ an;refine wp_region_noPanic ?_;refine wp_region_held (S:=S) (by kernel_rfl) ?_;simp only[Lk,Lc,Lo,Nat.reduceAdd,Li,Lj,Lp,Lm,Ll];show wpAnyH _ _ _ _ _ _ _ _ w1.drew;generalize w1.drew=w2 at z|-;(refine tkH 1 (.pointer (some ⟨w.heap.size,3,none⟩)) rfl (Qd rfl (λW hW=>by(go_simp))) ?_;simp only[Act.put,Qa,Qb,Qc]);(refine tkH 2 (.slice r.addr r.evs.length r.cap) rfl (Qd rfl (λW hW=>by((have h:=(s0 W hW).cellv (i:=3) (v:=.slice r.addr r.evs.length r.cap) rfl;go_simp)))) ?_;simp only[Act.put,Qa,Qb,Qc]);(refine tkH 3 (.int .i64 r.evs.length) rfl (Qd rfl (λW hW=>by(go_simp))) ?_;simp only[Act.put,Qa,Qb,Qc]);(refine tkH 4 (.int .u64 r.evs.length) rfl (Qd rfl (λW hW=>by(go_simp;rw[IntKind.wrap_u64];omega))) ?_;simp only[Act.put,Qa,Qb,Qc]);(refine wpAnyH_all (rs:=[0]) (by kernel_rfl) (by simp) (λi hi=>?_);obtain rfl:i=0:=by simpa using hi);refine Qf rfl rfl (λK2 m=>?_);refine Qo 121 #[] (w1:=w2) (by go_simp) ((Aek w2).mono ?_);rintro e w3 ⟨rfl,y,b3⟩;refine⟨_,rfl,?_⟩;refine m _ _ ?_;clear m K2;simp only[Act.put,Qa,Qb,Qc];have ag:=aw.go z b3;have hB:w.heap.size<w2.heap.size:=(s0 _ z).lt;clear z b3;refine⟨ag,?_⟩;(refine wpAnyH_all (rs:=[5]) (by kernel_rfl) (by simp) (λi hi=>?_);obtain rfl:i=5:=by simpa using hi);refine Qf rfl rfl (λK2 m=>?_);refine Qo 122 #[.pointer (some ⟨w2.heap.size,0,none⟩),.int .u64 r.evs.length] (w1:=w3) (by go_simp) ((Aj8 _ _ [] r.evs.length (by simp) (by omega) w3 y).mono ?_);rintro e w4 ⟨rfl,h4,e4⟩;refine⟨_,rfl,?_⟩;refine m _ _ ?_;clear m K2;simp only[Act.put,Qa,Qb,Qc];have ao:S w4:=aj _ (e4.row (s0 _ ag) (by omega) (by decide)) ((s1 _ ag).trans ((e4.below (Nat.le_refl _) (by have:=y.lt;omega)).mono (by omega)));refine⟨ao,?_⟩;(refine tkH 6 (.pointer (some ⟨w2.heap.size,0,none⟩)) rfl (Qd rfl (λW hW=>by(rfl))) ?_;simp only[Act.put,Qa,Qb,Qc]);refine wpAnyH_done (by kernel_rfl) ?_ _;exact HK.out _ _ (Met.intro (HJ.out _ _ ⟨_,_,hB,ao,by simpa using h4,rfl⟩))
 case rest=>
  rintro a W ⟨u,g,hB,z,hw,rfl⟩;have gB:u<=g:=hw.1;have aq:=s0 _ z;have s:Row (W.alloc (.cells #[.func (.func 123) #[.pointer (some ⟨g,0,none⟩)] #[]] 208)) W.heap.size 208 #[.func (.func 123) #[.pointer (some ⟨g,0,none⟩)] #[]]:=Row.new _ _ _;have ah:=aq.alloc (.cells #[.func (.func 123) #[.pointer (some ⟨g,0,none⟩)] #[]] 208);have t:=St.alloc (S:=λW=>Wr W u g (Vh r.evs.length)) hw (.cells #[.func (.func 123) #[.pointer (some ⟨g,0,none⟩)] #[]] 208);have aa:=(s1 _ z).alloc (s1 _ z).size (.cells #[.func (.func 123) #[.pointer (some ⟨g,0,none⟩)] #[]] 208);have lG:g<W.heap.size:=hw.lt;clear aq;gi_wp2_with (refine Zz rfl 114 _ rfl w.heap.size rfl 114 r.cells (0,0) _ ah Tryz.underlying114 rfl (by kernel_rfl) ?_);obtain⟨BP,af⟩:∃BP,BP=W.heap.size:=⟨_,rfl⟩;have az:g<BP:=by omega
  have ay:w.heap.size<=BP:=by rw[af];exact(s1 _ z).size
  have ax:r.evs.length<=10000:=Hl.out;rw[<-af]at s|-;generalize W.alloc (.cells #[.func (.func 123) #[.pointer (some ⟨g,0,none⟩)] #[]] 208)=w5 at s ah t aa|-;refine⟨trivial,rfl,(callsIn_wide.2 (AdP r w5)).mono ?_⟩;rintro e w6 ⟨rfl,ar⟩;have ab:=Row.new w5 114 r.cells;have ac:=s.alloc (.cells r.cells 114);have ae:=St.alloc (S:=λW=>Wr W u g (Vh r.evs.length)) t (.cells r.cells 114);have q:=aa.alloc aa.size (.cells r.cells 114);rw[ar]at ab ac ae q;have av:=s.lt;obtain⟨Bs,am⟩:∃Bs,Bs=w5.heap.size:=⟨_,rfl⟩;rw[<-am]at ab av|-;have l6:=ab.lt;clear am ar t aa s ah z s0 s1 aj hw lG af;have ap:r.ok w6:=⟨d.out.kind,d.out.value,d.out.steps,d.out.len,d.out.cap,d.out.nil,Akh d.out.reads q,d.out.evs⟩;have al:=Lh (AaP Bs r (WrC u g) w6 ap ab (by omega) (λA B h hr=>h.row hr (by omega) (.inl (by decide))) (λA B h hr=>h.rd d.out.reads (by omega) gB hr) (λA B h=>h.1) (λA B k cs hk h hr=>h.row hr (by omega) (.inl (by decide))));gi_wp2
  refine Acd (gf:=161) (lb:=#[.pointer (some ⟨Bs,0,none⟩)]) rfl (enters_of Tryz.func161 (by kernel_rfl) rfl) al.out (λr h=>h.elim)
   (λh k=>h.trans k) (λW l o o' hl ho hc=>WrC.put ho hc) (World.grownBy.refl _ _) (λ_=>rfl)
   (λj W=>Row W BP 208 #[.func (.func 123) #[.pointer (some ⟨g,0,none⟩)] #[]]/\Wr W u g (Vh r.evs.length++XV (j.map (·.1)))/\Below w.heap.size w W) (λ_ _ _=>False) ?hI ?hIx ⟨ac,by simpa[XV]using ae,q⟩
   (λx a' W=>a'={ tmps:=#[.agg r.cells,.pointer (some ⟨w.heap.size,0,none⟩),.string ⟨#[]⟩,.pointer (some ⟨g,0,none⟩),.pointer (some ⟨BP,0,none⟩),.int .i64 x.1,.pointer (some ⟨g,0,none⟩),.pointer (some ⟨w.heap.size,3,none⟩),.slice r.addr r.evs.length r.cap,.int .i64 r.evs.length,.int .u64 r.evs.length,.pointer (some ⟨g,0,none⟩),.pointer (some ⟨g,0,none⟩),.func (.func 123) #[.pointer (some ⟨g,0,none⟩)] #[],.agg r.cells,.func (.func 161) #[] #[.pointer (some ⟨Bs,0,none⟩)],.int .i64 x.1,undef,undef,undef,undef,undef],defers:=[] }) ?hAx ?assign ?body ?done ?stop
  case hI=>
   rintro j A B row ⟨h1,h2,y⟩ hg hr;refine⟨h1.abid hg hr,h2.abid hg hr,y.grown hg y.size (λk e=>?_)⟩;rcases hr k e with h|⟨h,_⟩
   ·exact h.elim
   ·have:=q.size;omega
  case hIx=>exact λ_ _ _ _ _ h _ _=>h
  case hAx=>exact λx a' _ _ _ _ h _ _=>h
  case assign=>
   rintro l j x W K hI hK;have HK:=Lh hK;clear hK;gi_wp2;exact HK.out _ _ (KeepsFrom.refl _ _) (WrC.refl _ _ _) hI rfl
  case body=>
   rintro l j x a' W hl _ ⟨h1,h2,y⟩ rfl a1;have hc:=h1.cellv (i:=0) rfl
   have ad:(Vh r.evs.length++XV (j.map (·.1))).length<=1000000:=by
    have:=UG r.evs.length;have:=Aby (j.map (·.1));rw[Lu]at this;rw[Le];omega
   have ak:=Lh ad;clear ad;gi_wp2_with fail
   refine⟨trivial,rfl,(CallsIn.inRound l (callsIn_wide.2 (AjX u g _ x.1 ak.out x.2 W h2))).mono ?_⟩;rintro e W2 ⟨rfl,t,e2⟩;gi_wp2;have ai:∃v,Row W g 259 #[v]:=by obtain⟨_,v,h,_⟩:=h2;exact⟨v,h⟩
   obtain⟨v,ai⟩:=ai;refine⟨e2.keeps ai,WrC.of e2,e2.row h1 (by omega) (by decide),?_,y.trans ((e2.below gB (by have:=h2.lt;omega)).mono (by omega))⟩;simpa[XV]using t
  case stop=>exact λD c j W _ _ h _=>h.elim
  case done=>
   rintro D ys W hD au ⟨h1,h2,y⟩ hK;rw[au,Aed]at h2;have HK:=Lh hK;clear hK au h1;gi_wp2_with fail
   refine⟨trivial,rfl,(callsIn_wide.2 (Aeo u g _ W h2)).mono ?_⟩;rintro e W2 ⟨rfl,rfl⟩;clear h2;gi_wp2;refine⟨by simp,.inl ⟨_,_,rfl,run_takeDeferred HK.out,?_⟩⟩;exact⟨_,results_tmp rfl _ _ _,rfl,y.grown (grownBy_putObj' _ _ _) y.size (λk e=>by cases e;have:=q.size;omega)⟩
end Go.Proofs.YtkoikjnlpifbjaaGreat
namespace Go.Proofs.YtkoikjnlpifbjaaGreat
open Go.RowKit Go.Deep
attribute [local go_sem] Agk AfB AfA Acy Acz AcA Eh YO Agl Agm Aej
theorem Aki{x y:BitVec 32}(h:x=y):Ending.returned (.int .u32 (wd x))=.returned (.int .u32 (wd y)):=by rw[h]
theorem Ala (x:BitVec 32)(n:Nat)(h0:0<n)(h1:n<32):x <<< (32-n) |||x >>> (32-(32-n))=x.rotateRight n:=by
 rw[BitVec.rotateRight_def,NC h1,show 32-(32-n)=n from by omega,BitVec.or_comm]
theorem Alm:∀n:_root_.Fin 31,bits .and .u64 (IntKind.u64.wrap (-((n.val+1:Nat):Int))) 31=((31-n.val:Nat):Int):=by decide+kernel
theorem Ad7 (x:BitVec 32)(n:Int)(h0:0<n)(h1:n<32)(w:World):
 Calls Tryz.prog 157 #[.int .u32 (wd x),.int .i64 n] w λe w'=>e=.returned (.int .u32 (wd (x.rotateRight n.toNat)))/\w=w':=by
 obtain⟨n,rfl⟩:=Int.eq_ofNat_of_zero_le (Int.le_of_lt h0);rw[Ln];obtain⟨m,c⟩:∃m,m=32-n:=⟨_,rfl⟩;have k:0<m:=by omega
 have i:m<32:=by omega
 have j:bits .and .u64 (IntKind.u64.wrap (-(n:Int))) 31=(m:Int):=by
  have h:=Alm ⟨n-1,by omega⟩;simp only[show n-1+1=n from by omega,show 31-(n-1)=m from by omega]at h;exact h
 have d:x <<< m |||x >>> (32-m)=x.rotateRight n:=by rw[c];exact Ala x n (by omega) (by omega)
 have g:=Lh d;clear d c;go_enter Tryz.func157,Tryz.ntmps157
 go_wp2
 go_ret
 exact⟨Aki g.out,rfl⟩
end Go.Proofs.YtkoikjnlpifbjaaGreat
namespace Go.Proofs.YtkoikjnlpifbjaaGreat
open Go.RowKit Go.Deep
def Adc (l:List UInt8)(W:List (BitVec 32))(i:Nat):List (BitVec 32):=W.set (i / 4) (W.getD (i / 4) 0 <<< 8 |||BitVec.ofNat 32 (l.getD i 0).toNat)
def fill (l:List UInt8):Nat->List (BitVec 32)
 |0=>List.replicate 64 0
 |i+1=>Adc l (fill l i) i
def AkG (W:List (BitVec 32))(t:Nat):BitVec 32:=
 let x:=W.getD (t-15) 0
 let y:=W.getD (t-2) 0
 W.getD (t-16) 0+(x.rotateRight 7 ^^^ x.rotateRight 18 ^^^ x >>> 3)+W.getD (t-7) 0+(y.rotateRight 17 ^^^ y.rotateRight 19 ^^^ y >>> 10)
def Yd (W:List (BitVec 32)):Nat->List (BitVec 32)
 |0=>W
 |i+1=>(Yd W i).set (16+i) (AkG (Yd W i) (16+i))
def YP (l:List UInt8):List (BitVec 32):=Yd (fill l 64) 48
theorem KQ (l:List UInt8):∀i,(fill l i).length=64
 |0=>by simp[fill]
 |i+1=>by simp[fill,Adc,KQ l i]
theorem JR (W:List (BitVec 32))(h:W.length=64):∀i,(Yd W i).length=64
 |0=>h
 |i+1=>by simp[Yd,JR W h i]
attribute [local go_sem] Agk AfB AfA Acy Acz AcA Eh YO Agl Agm Aej
theorem Aic (x:BitVec 32)(b:UInt8):bits .or .u32 (wd (x <<< 8)) ((b.toNat:Int) % 4294967296)=wd (x <<< 8 |||BitVec.ofNat 32 b.toNat):=by
 rw[show((b.toNat:Int) % 4294967296)=wd (BitVec.ofNat 32 b.toNat)from by rw[<-Akw];have:=b.toNat_lt;omega,Agk]
theorem Aib (l:List UInt8)(k:Nat):(wds (fill l k)).toArray.setIfInBounds (k / 4) (.int .u32 (bits .or .u32 (wd ((fill l k)[k / 4]?.getD 0#32 <<< 8)) (((l[k]?.getD 0).toNat:Int) % 4294967296)))=(wds (fill l (k+1))).toArray:=by
 rw[Aic,U3];rfl
theorem Up (x:BitVec 32)(n:Int)(h0:0<n)(h1:n<32)(w:World):
 Calls Tryz.prog 157 #[.int .u32 (wd x),.int .i64 n] w λe w'=>e=.returned (.int .u32 (wd (x.rotateRight n.toNat)))/\w'=w:=
 (Ad7 x n h0 h1 w).mono λ_ _ h=>⟨h.1,h.2.symm⟩
theorem AjO (W:List (BitVec 32))(k:Nat):(wds (Yd W k)).toArray.setIfInBounds (k+16) (.int .u32 (wd (AkG (Yd W k) (k+16))))=(wds (Yd W (k+1))).toArray:=by
 rw[U3,Nat.add_comm k 16];rfl
theorem Ahr (g:Nat)(T:TypeId)(l:List UInt8)(hl:l.length=64)(w:World)(hg:g<w.heap.size)(hrow:Row w g T (u8s l).toArray):
 Calls Tryz.prog 155 #[.pointer (some ⟨g,0,none⟩)] w λe w'=>∃g',e=.returned (.pointer (some ⟨g',0,none⟩))/\w.heap.size<=g'/\Row w' g' 279 (wds (YP l)).toArray/\Below w.heap.size w w':=by
 have o:=Lh hl;clear hl;go_enter Tryz.func155,Tryz.ntmps155
 go_wp2
 go_loopw [10] (λi wr=>∃k:Nat,i=.int .i64 (k:Int)/\k<=64/\Row wr w.heap.size 279 (wds (fill l k)).toArray/\Below w.heap.size w wr) (λi _=>(64-intOf i).toNat)
 case atStart=>exact⟨0,by simp,by omega,Row.new _ _ _,(Below.refl _ _).alloc (Nat.le_refl _) _⟩
 case round=>
  obtain⟨k,rfl,v,c,h⟩:=hrel;by_cases d:k<64
  ·have hc:=(hrow.below h hg).cellv (Alh l k (by rw[o.out];exact d));have hd:=c.cellv (Xu (fill l k) (k / 4) (by rw[KQ];omega));have u:=c.free (k / 4);go_wp2
   go_quiet (fail)
   go_wp2
   go_roundw
   case rel=>exact⟨k+1,by go_num,by omega,by rw[<-Aib];exact(c.drewN _).set _ _,(Z0 h _).setCell (p:=⟨w.heap.size,k / 4,none⟩) (Nat.le_refl _) _⟩
   case measure=>simp[intOf];omega
  ·obtain rfl:k=64:=by omega
   clear d;rw[show((64:Nat):Int)=64 from rfl];go_wp2
   go_loopw [6] (λi wr=>∃k:Nat,i=.int .i64 ((k:Int)+16)/\k<=48/\Row wr w.heap.size 279 (wds (Yd (fill l 64) k)).toArray/\Below w.heap.size w wr) (λi _=>(64-intOf i).toNat)
   case atStart=>exact⟨0,by simp,by omega,c,h⟩
   case round=>
    clear h c;obtain⟨k,rfl,v,c,h⟩:=hrel;by_cases j:k<48
    ·have t:=c.cellv (Xu _ k (by rw[JR _ (KQ _ _)];omega));have s:=c.cellv (Xu _ (k+1) (by rw[JR _ (KQ _ _)];omega));have h7:=c.cellv (Xu _ (k+9) (by rw[JR _ (KQ _ _)];omega));have h2:=c.cellv (Xu _ (k+14) (by rw[JR _ (KQ _ _)];omega));have h0:=c.cellv (Xu _ (k+16) (by rw[JR _ (KQ _ _)];omega));have u:=c.free (k+16);go_wp2
     go_quiet (fail)
     go_wp2
     refine QJ 29 (by kernel_rfl) (by kernel_rfl) ?_;simp only[L0,LE,Lz,LA];have m:IntKind.i64.wrap (k:Int)=(k:Int):=by rw[IntKind.wrap_i64];omega
     have q:IntKind.i64.wrap ((k:Int)+16-7)=(k:Int)+9:=by rw[IntKind.wrap_i64];omega
     have t9:((k:Int)+9).toNat=k+9:=by omega
     have aa:((k:Int)+16).toNat=k+16:=by omega
     have y:(k:Int)+9<64:=by omega
     have x:(k:Int)<64:=by omega
     have z:0<=(k:Int)+9:=by omega
     have n:0<=(k:Int)+16:=by omega
     repeat(first|still_step|still_call (Up _ _ (by omega) (by omega) _))
     refine wpStill_nil ?_;clear m q t9 y x z n;go_wp2
     go_roundw
     case rel=>exact⟨k+1,by go_num,by omega,by rw[<-AjO];exact(c.drewN _).set _ _,(Z0 h _).setCell (p:=⟨w.heap.size,k+16,none⟩) (Nat.le_refl _) _⟩
     case measure=>simp[intOf];omega
    ·obtain rfl:k=48:=by omega
     clear j;go_wp2
     go_ret
     exact⟨_,rfl,Nat.le_refl _,c,h⟩
end Go.Proofs.YtkoikjnlpifbjaaGreat
namespace Go.Proofs.YtkoikjnlpifbjaaGreat
open Go.RowKit Go.Deep
def cubeL:List (BitVec 32):=[
 0x428a2f98,0x71374491,0xb5c0fbcf,0xe9b5dba5,0x3956c25b,0x59f111f1,0x923f82a4,0xab1c5ed5,
 0xd807aa98,0x12835b01,0x243185be,0x550c7dc3,0x72be5d74,0x80deb1fe,0x9bdc06a7,0xc19bf174,
 0xe49b69c1,0xefbe4786,0x0fc19dc6,0x240ca1cc,0x2de92c6f,0x4a7484aa,0x5cb0a9dc,0x76f988da,
 0x983e5152,0xa831c66d,0xb00327c8,0xbf597fc7,0xc6e00bf3,0xd5a79147,0x06ca6351,0x14292967,
 0x27b70a85,0x2e1b2138,0x4d2c6dfc,0x53380d13,0x650a7354,0x766a0abb,0x81c2c92e,0x92722c85,
 0xa2bfe8a1,0xa81a664b,0xc24b8b70,0xc76c51a3,0xd192e819,0xd6990624,0xf40e3585,0x106aa070,
 0x19a4c116,0x1e376c08,0x2748774c,0x34b0bcb5,0x391c0cb3,0x4ed8aa4a,0x5b9cca4f,0x682e6ff3,
 0x748f82ee,0x78a5636f,0x84c87814,0x8cc70208,0x90befffa,0xa4506ceb,0xbef9a3f7,0xc67178f2]
theorem Agy (w:World):
 Calls Tryz.prog 156 #[] w λe w'=>∃g',e=.returned (.pointer (some ⟨g',0,none⟩))/\w.heap.size<=g'/\Row w' g' 279 (wds cubeL).toArray/\Below w.heap.size w w':=by
 go_enter Tryz.func156,Tryz.ntmps156
 go_wp2_with (
  (refine wpList_build rfl 279 _ rfl (by kernel_rfl) ?_
   generalize d:(Program.built _ _ _).getD #[]=X
   have c:X=(wds cubeL).toArray:=by rw[<-d];kernel_rfl
   clear d
   subst c))
 go_ret
 exact⟨_,rfl,Nat.le_refl _,Row.new _ _ _,(Below.refl _ _).alloc (Nat.le_refl _) _⟩
def KV:List (BitVec 32):=[0x6a09e667,0xbb67ae85,0x3c6ef372,0xa54ff53a,0x510e527f,0x9b05688c,0x1f83d9ab,0x5be0cd19]
theorem Ahl (w:World):
 Calls Tryz.prog 116 #[] w λe w'=>e=.returned (.agg (wds KV).toArray)/\Below w.heap.size w w':=by
 go_enter Tryz.func116,Tryz.ntmps116
 go_wp2
 exact bodyPost_ret (v:=.agg (wds KV).toArray) (results_cell_row Tryz.results116 _ _ w.heap.size 195 _ (0,0) _ rfl (heap_alloc_new w _) Tryz.underlying195 rfl (by kernel_rfl)) rfl ⟨rfl,(Below.refl _ _).alloc (Nat.le_refl _) _⟩
end Go.Proofs.YtkoikjnlpifbjaaGreat
