/- Lemmas for RunnerKillsP. -/
import Derived.Test.YtkoikjnlpifbjaaGreatZk1
import Derived.Test.YtkoikjnlpifbjaaGreatZk11
import Derived.Test.YtkoikjnlpifbjaaGreatZk12
import Derived.Test.YtkoikjnlpifbjaaGreatZk8
import Derived.Test.YtkoikjnlpifbjaaGreatZk5
import Derived.Lib.SlicesCompact
import Derived.Shelf.Small.Bits
import Derived.Shelf.Strconv.Itoa0
import Derived.Shelf.Sort.Plain
import Derived.Shelf.Bits.Mul64
import Derived.Shelf.Slices.Clone
import Derived.Shelf.Slices.CompactI
import Derived.Shelf.Slices.SearchI
import Derived.Shelf.Slices.Cells
import Derived.Shelf.Slices.In.SortNone
import Derived.Shelf.SlicesE.Clone
import Derived.Test.YtkoikjnlpifbjaaGreatRows
import Derived.WalkKit
set_option linter.unusedVariables false
set_option linter.unusedSimpArgs false
set_option maxRecDepth 100000
set_option maxHeartbeats 16000000
namespace Go.Proofs.YtkoikjnlpifbjaaGreat
open Go.RowKit Go.Deep
theorem Aet (A:Option Addr)(cap:Nat)(l:List Nd)(w:World)(hr:Rd w A (l.flatMap Nd.cells))(hl:l.length<=1000):
 Calls Tryz.prog 60 #[.slice A l.length cap] w λe w'=>e=.returned (.int .i64 (ZV l))/\Below w.heap.size w w':=by
 by_cases k:l.length=0
 ·have c:=Lh (AcT k);rw[k];clear hr hl k;go_enter Tryz.func60,Tryz.ntmps60
  go_wp2_with fail
  go_ret
  exact⟨ZY c.out.symm,Below.refl _ _⟩
 have e0:((l.length:Int)==0)=false:=by rw[beq_eq_false_iff_ne];omega
 by_cases p:200<l.length
 ·have c:=Lh (AcU p);have e1:200<(l.length:Int):=by omega
  clear hr hl k p;go_enter Tryz.func60,Tryz.ntmps60
  go_wp2_with fail
  go_ret
  exact⟨ZY c.out.symm,Below.refl _ _⟩
 have e1:¬(200<(l.length:Int)):=by omega
 have u:=Lh (AeO A cap l (λx=>decide (Qv x<0)) w (λW=>Rd W A (l.flatMap Nd.cells)/\Below w.heap.size w W) ⟨hr,Below.refl _ _⟩ (λW h=>h.1) (λW h=>h.2) (λx _ W _=>AeJ x W) (by omega));have He:=Lh (λW h=>JH A cap l (0:Int) W h hl);have Hr:=Lh hr;have z:=Lh k;have s:=Lh p;have Hl:=Lh hl;clear hr hl k p;obtain⟨b,n⟩:∃b,b=l.any λx=>decide (Qv x<0):=⟨_,rfl⟩;rw[<-n]at u;go_enter Tryz.func60,Tryz.ntmps60
 go_wp2_with fail
 refine u.out.mono ?_;rintro e w1 ⟨rfl,g⟩;clear u;cases b;rotate_left
 ·obtain⟨x,i,o⟩:=List.any_eq_true.1 n.symm;have c:=Lh (AcV z.out s.out i (by simpa using o));clear n i o;go_wp2_with fail
  go_ret
  exact⟨ZY c.out.symm,g⟩
 have h2:∀x∈l,¬Qv x<0:=λx i o=>by
  have:=List.any_eq_false.1 n.symm x i;simp at this;omega
 have H2:=Lh h2;clear n h2;go_wp2_with fail
 refine(He.out w1 (Hr.out.go g)).mono ?_;rintro e q ⟨rfl,b2⟩;replace g:=g.trans (b2.mono g.size);clear b2 He;by_cases m:endZ l 0=(l.length:Int);rotate_left
 ·have c:=Lh (AcW z.out s.out (λx i o=>by have:=H2.out x i;omega) m);have e3:(endZ l 0 != (l.length:Int))=true:=by simpa using m
  clear m;go_wp2_with fail
  go_ret
  exact⟨ZY c.out.symm,g⟩
 obtain⟨t,y⟩:=Whole.of m;have e3:((l.length:Int) != (l.length:Int))=false:=by simp
 have c:=Lh (Et s.out (λx i o=>by have:=H2.out x i;omega) y);have v:Hid (Calls Tryz.prog 103 #[.slice A l.length cap,.int .i64 0] q λe w'=>e=.returned (.int .i64 (Ys t))/\Below q.heap.size q w'):=AgB A cap l Hl.out t.size t 0 (Nat.le_refl _) y.hat q (Hr.out.go g);rw[m];clear m y;obtain⟨d,hd⟩:∃d,d=Ys t:=⟨_,rfl⟩;rw[<-hd]at v c;clear hd;go_wp2_with fail
 refine v.out.mono ?_;rintro e w3 ⟨rfl,b3⟩;replace g:=g.trans (b3.mono g.size);clear b3 v;by_cases h4:30<d
 ·have j:Hid (ZV l=13):=by have:=c.out;rw[if_pos h4]at this;exact this
  clear c;go_wp2_with fail
  go_ret
  exact⟨ZY j.out.symm,g⟩
 ·have j:Hid (ZV l=0):=by have:=c.out;rw[if_neg h4]at this;exact this
  clear c;go_wp2_with fail
  go_ret
  exact⟨ZY j.out.symm,g⟩
theorem Ui (p:PgV)(hbl:p.body.length<=1000)(w:World)(hok:p.ok w):
 Calls Tryz.prog 24 #[.agg p.cells] w λe w'=>e=.returned (.int .i64 (QX p))/\Below w.heap.size w w':=by
 have u:=Lh hbl;have x:=Lh hok;clear hbl hok;go_enter Tryz.func24,Tryz.ntmps24
 go_wp2_with (refine Qq _ _ rfl ?_)
 refine Stop.to ?_;refine Qe rfl 25 _ rfl p.cells rfl ?_;intro G Gw Gh l Gb;have d:=(Below.refl w.heap.size w).trans (Gb.mono Gh);have c:=Lh (x.out.go d);have c2:=l.cellv (i:=2) (v:=.slice p.ba p.body.length p.bcap) rfl;have n:=Lh (Aet p.ba p.bcap p.body Gw c.out.brd u.out);clear Gb Gh x;go_wp2_with fail
 refine n.out.mono ?_;rintro e w1 ⟨rfl,j⟩;replace l:=l.below j l.lt;replace d:=d.trans (j.mono d.size);replace c:=Lh (c.out.go j);clear j n c2;obtain⟨a,q⟩:∃a,a=ZV p.body:=⟨_,rfl⟩;rw[<-q];by_cases o:a=0;rotate_left
 ·have m:Hid (QX p=a):=by show _=_;rw[AcX (by rw[<-q];exact o), <-q]
  have e0:(a != 0)=true:=by simpa using o
  clear q o;go_wp2_with fail
  go_ret
  exact⟨ZY m.out.symm,d⟩
 subst o;have s:=Lh q.symm;have n:=Lh (Aeh p w1 c.out);clear q;go_wp2_with (refine wpList_load_row rfl 25 _ rfl G rfl 25 p.cells (0,0) _ l Tryz.underlying25 rfl (by kernel_rfl) ?_)
 refine n.out.mono ?_;rintro e w2 ⟨rfl,j⟩;replace l:=l.below j l.lt;replace d:=d.trans (j.mono d.size);replace c:=Lh (c.out.go j);clear j n;obtain⟨v,hv⟩:∃v,v=JB p.params p.V:=⟨_,rfl⟩;rw[<-hv];by_cases o:v=0;rotate_left
 ·have ae:v=14:=by rcases YM p.params p.V with h|h<;>omega
  have m:Hid (QX p=14):=AcY s.out (by rw[<-hv];exact o);subst ae;clear hv o;go_wp2_with fail
  go_ret
  exact⟨ZY m.out.symm,d⟩
 subst o;have Hv:=Lh hv.symm;obtain⟨ai,ag,t,ht,ah⟩:=Aa7 s.out;have y:=Lh ht;have n:Hid (∀W,p.ok W->Calls Tryz.prog 62 #[.agg p.cells,.int .i64 0] W λe w'=>e=.returned (.int .i64 (ofT p.V t))/\Below W.heap.size W w'):=λW h=>Adt p u.out t 0 y.out.hat W h
 obtain⟨ad,af,hc⟩:=J6 c.out.brd ht.hat.root;have c2:=l.cellv (i:=2) (v:=.slice p.ba p.body.length p.bcap) rfl;have c0:=hc 0 _ rfl;have aj:(0:Int)<(p.body.length:Int):=by have:=ht.pos;omega
 simp only[Nat.zero_mul,XP]at c0;rw[af]at c2;have ab:Hid (Xt p.params p.V):=by rcases YM p.params p.V with h|h;exact h.2;have:=Hv.out;omega
 clear hv ai ag ah ht hc;by_cases g:t.root.tag=20;rotate_left
 ·have m:Hid (QX p=15):=Eu s.out Hv.out (KJ y.out.hat (λh=>g h.1));have ac:(t.root.tag != 20)=true:=by simpa using g
  clear g;go_wp2_with fail
  go_ret
  exact⟨ZY m.out.symm,d⟩
 have ac:(t.root.tag != 20)=false:=by simp[g]
 have aa:=Lh g;clear g;go_wp2_with (refine X5 rfl 25 _ rfl G rfl 25 p.cells (0,0) _ l Tryz.underlying25 rfl (by kernel_rfl) ?_)
 refine(n.out w2 c.out).mono ?_;rintro e w3 ⟨rfl,j⟩;replace d:=d.trans (j.mono d.size);clear j n c0 c2;obtain⟨k,z⟩:∃k,k=ofT p.V t:=⟨_,rfl⟩;rw[<-z];by_cases h2:k=2
 ·subst h2;have m:Hid (QX p=0):=AcZ s.out Hv.out ⟨y.out.hat,y.out.size,ab.out,aa.out,z.symm⟩;clear z;go_wp2_with fail
  go_ret
  exact⟨ZY m.out.symm,d⟩
 ·have m:Hid (QX p=15):=Eu s.out Hv.out (KJ y.out.hat (λh=>h2 (by rw[z];exact h.2)));have e2:(k != 2)=true:=by simpa using h2
  clear z h2;go_wp2_with fail
  go_ret
  exact⟨ZY m.out.symm,d⟩
def X2 (l:List Nd):Int->List Int->Int
 |a,[]=>a
 |a,i::π=>if i<0\/((kidsZ l a).length:Int)<=i then-1 else X2 l (((kidsZ l a)[i.toNat]?).getD 0) π
def Xj (l:List Nd)(π:List Int):Int:=if endZ l 0=(l.length:Int)then X2 l 0 π else-1
theorem AbJ{l:List Nd}{a i:Int}{π:List Int}{k:Nat}(hi:π[k]? =some i)(h:i<0\/((kidsZ l a).length:Int)<=i):X2 l a (π.drop k)= -1:=by
 have d:=(La.1 hi).1;have c:=(La.1 hi).2;rw[LH d,c,X2,if_pos h]
theorem Ai8{l:List Nd}{a b:Int}{π:List Int}{k j:Nat}(hi:π[k]? =some (j:Int))(h:(kidsZ l a)[j]? =some b):X2 l a (π.drop k)=X2 l b (π.drop (k+1)):=by
 have d:=(La.1 hi).1;have c:=(La.1 hi).2;have e:=(La.1 h).1;rw[LH d,c,X2,if_neg (by omega),Ln,h];rfl
theorem AaC{l:List Nd}:∀(π:List Int) (q:Nat) (t:Tr),At l q t->X2 l (q:Int) π=match ZO π q t with|some (r,_)=>(r:Int)|none=> -1
 |[],q,t,_=>by rw[X2,ZO]
 |i::π,q,.node x ks,h=>by
  have hk:=h.kidsZ
  have hkl:(kidsZ l (q:Int)).length=ks.length:=by rw[hk,Lu,Ju];rfl
  rw[X2,ZO]
  by_cases h0:i<0
  ·rw[if_pos (Or.inl h0),if_pos h0]
  rw[if_neg h0]
  by_cases h1:((kidsZ l (q:Int)).length:Int)<=i
  ·rw[if_pos (Or.inr h1)]
   have h2:ks[i.toNat]? =none:=Nh (by omega)
   rw[h2]
   split
   ·rename_i h3;split at h3<;>simp_all
   ·rfl
  rw[if_neg (by omega)]
  obtain⟨k,hk2⟩:∃k,ks[i.toNat]? =some k:=⟨_,Lb (by omega)⟩
  obtain⟨r,hr⟩:=Acq (p:=q+1) hk2
  have hr2:(kidsZ l (q:Int))[i.toNat]? =some (r:Int):=by rw[hk,L4,show(Tr.node x ks).kids=ks from rfl,hr];rfl
  rw[hr2,LL,hr,hk2]
  exact AaC π r k (h.kids.spot i.toNat r k hr hk2).1
end Go.Proofs.YtkoikjnlpifbjaaGreat
namespace Go.Proofs.YtkoikjnlpifbjaaGreat
open Go.RowKit
theorem Af0 (a:Int):∀l:List Int,(AaM a l).length<=l.length+1
 |[]=>by simp[AaM]
 |b::l=>by
  rw[AaM]
  split
  ·simp
  ·split
   ·simp
   ·have:=Af0 a l;simp;omega
theorem Aau:∀l:List Int,(Xq l).length<=l.length
 |[]=>by simp[Xq]
 |a::l=>by have:=Af0 a (Xq l);have:=Aau l;rw[Xq];simp;omega
theorem Aae:∀{l:List Int},l.Pairwise (· <·)->J9 l
 |[],_=>trivial
 |[_],_=>trivial
 |a::b::l,h=>by
  rw[Ni]at h
  exact⟨h.1 b (by simp),Aae h.2⟩
theorem AbW{s:List Int}(hs:s.Pairwise (· <=·)):J9 (Lib.compact s)/\∀x,x∈Lib.compact s<->x∈s:=by
 have d:∀j,j<s.length->∃x,s[j]? =some x/\s.toArray[j]! =x:=λj o=>⟨s[j],Lb o,by simp[o]⟩
 have m:∀i j x y,i<=j->s[i]? =some x->s[j]? =some y->x<=y:=λi j x y u t k=>by
  rcases Nat.lt_or_eq_of_le u with h|h
  ·obtain⟨h1,rfl⟩:=La.1 t;obtain⟨h2,rfl⟩:=La.1 k;exact LY.1 hs i j h1 h2 h
  ·subst h;rw[t]at k;injection k with k;omega
 constructor
 ·refine Aae ?_;unfold Lib.compact Lib.compactUpTo;rw[N8,List.pairwise_filter];rw[LY];intro i j hi o u af p;simp only[List.getElem_range]at*;rw[List.length_range]at hi o;unfold Lib.keeps at p;rw[decide_eq_true_eq]at p;obtain⟨x,t,ac⟩:=d i hi;obtain⟨y,k,g⟩:=d j o;obtain⟨z,w,q⟩:=d (j-1) (by omega);rw[ac,g];rw[g,q]at p;have h1:=m i (j-1) x z (by omega) t w;have h2:=m (j-1) j z y (by omega) w k;rcases p with h|h<;>omega
 ·intro x;unfold Lib.compact Lib.compactUpTo;rw[LK];constructor
  ·rintro⟨j,o,rfl⟩;have ab:=Ny.1 (Nl.1 o).1;obtain⟨y,k,g⟩:=d j ab;rw[g];exact Lf k
  ·intro t;obtain⟨j,o,c⟩:=Na t
   have:∀(n j:Nat),j<=n->s[j]? =some x->∃a:Nat,a∈(List.range s.length).filter (Lib.keeps s.toArray)/\s.toArray[a]! =x:=by
    intro n
    induction n with
    |zero=>
     intro j aa c;obtain rfl:j=0:=by omega
     have l:=(La.1 c).1;obtain⟨y,k,g⟩:=d 0 l;rw[k]at c;injection c with c;exact⟨0,Nl.2 ⟨Ny.2 l,by simp[Lib.keeps]⟩,by rw[g,c]⟩
    |succ n ih=>
     intro j ae c;have l:=(La.1 c).1;obtain⟨y,k,g⟩:=d j l;rw[k]at c;injection c with c;subst c;by_cases v:Lib.keeps s.toArray j=true
     ·exact⟨j,Nl.2 ⟨Ny.2 l,v⟩,g⟩
     ·unfold Lib.keeps at v;rw[decide_eq_true_eq]at v;have aa:j≠0:=λe=>v (.inl e)
      obtain⟨z,w,q⟩:=d (j-1) (by omega)
      have ad:z=y:=by
       rcases Decidable.em (s.toArray[j]! =s.toArray[j-1]!)with e|e
       ·rw[g,q]at e;exact e.symm
       ·exact absurd (.inr e) v
      exact ih (j-1) (by omega) (by rw[w,ad])
   exact this j j (Nat.le_refl _) (by rw[Lb o,c])
theorem Ahk (l:List Int):Lib.compact (l.mergeSort λx y=>decide (x<=y))=Xq l:=by
 have g:(l.mergeSort λx y=>decide (x<=y)).Pairwise (· <=·):=by
  have:=List.pairwise_mergeSort (le:=λx y:Int=>decide (x<=y)) (λa b c=>by simp;omega) (λa b=>by simp;omega) l;exact this.imp (by simp)
 obtain⟨d,e⟩:=AbW g;refine Vn d (Xs l) λx=>?_
 rw[e,Y7];exact(List.mergeSort_perm l _).mem_iff
end Go.Proofs.YtkoikjnlpifbjaaGreat
namespace Go.Proofs.YtkoikjnlpifbjaaGreat
open Go.Shelf
def Adw:Go.Shelf.Ren:=⟨λ|189=>229|125=>234|257=>233|128=>245|129=>246|294=>236|295=>237|296=>238|297=>239|298=>240|299=>241|216=>242|300=>243|301=>244|328=>247|329=>248|330=>249|331=>250|332=>251|215=>126|343=>252|n=>n,λ|28=>22|3=>3|46=>251|0=>0|51=>77|53=>207|4=>4|183=>317|182=>316|131=>188|5=>5|9=>9|218=>324|222=>161|228=>329|229=>224|n=>n,λ|n=>n⟩
theorem Aj0:Go.Proofs.Lays.n189 Tryz.prog Adw:={
 mixed:=by kernel_rfl
 f125:=Tryz.func234.trans (congrArg some (by kernel_rfl))
 f128:=Tryz.func245.trans (congrArg some (by kernel_rfl))
 f129:=Tryz.func246.trans (congrArg some (by kernel_rfl))
 f189:=Tryz.func229.trans (congrArg some (by kernel_rfl))
 f215:=Tryz.func126.trans (congrArg some (by kernel_rfl))
 f216:=Tryz.func242.trans (congrArg some (by kernel_rfl))
 f257:=Tryz.func233.trans (congrArg some (by kernel_rfl))
 f294:=Tryz.func236.trans (congrArg some (by kernel_rfl))
 f295:=Tryz.func237.trans (congrArg some (by kernel_rfl))
 f296:=Tryz.func238.trans (congrArg some (by kernel_rfl))
 f297:=Tryz.func239.trans (congrArg some (by kernel_rfl))
 f298:=Tryz.func240.trans (congrArg some (by kernel_rfl))
 f299:=Tryz.func241.trans (congrArg some (by kernel_rfl))
 f300:=Tryz.func243.trans (congrArg some (by kernel_rfl))
 f301:=Tryz.func244.trans (congrArg some (by kernel_rfl))
 f328:=Tryz.func247.trans (congrArg some (by kernel_rfl))
 f329:=Tryz.func248.trans (congrArg some (by kernel_rfl))
 f330:=Tryz.func249.trans (congrArg some (by kernel_rfl))
 f331:=Tryz.func250.trans (congrArg some (by kernel_rfl))
 f332:=Tryz.func251.trans (congrArg some (by kernel_rfl))
 f343:=Tryz.func252.trans (congrArg some (by kernel_rfl))
 t0:=Tryz.underlying0
 a0:=Tryz.isAgg0
 z0:=Tryz.sizeOf0
 v0:=Tryz.zeroValue0
 t3:=Tryz.underlying3
 a3:=Tryz.isAgg3
 z3:=Tryz.sizeOf3
 v3:=Tryz.zeroValue3
 t4:=Tryz.underlying4
 a4:=Tryz.isAgg4
 z4:=Tryz.sizeOf4
 v4:=Tryz.zeroValue4
 t5:=Tryz.underlying5
 a5:=Tryz.isAgg5
 z5:=Tryz.sizeOf5
 v5:=Tryz.zeroValue5
 t9:=Tryz.underlying9
 a9:=Tryz.isAgg9
 z9:=Tryz.sizeOf9
 v9:=Tryz.zeroValue9
 t28:=Tryz.underlying22
 a28:=Tryz.isAgg22
 z28:=Tryz.sizeOf22
 v28:=Tryz.zeroValue22
 t46:=Tryz.underlying251
 a46:=Tryz.isAgg251
 z46:=Tryz.sizeOf251
 v46:=Tryz.zeroValue251
 t51:=Tryz.underlying77
 a51:=Tryz.isAgg77
 z51:=Tryz.sizeOf77
 v51:=Tryz.zeroValue77
 t53:=Tryz.underlying207
 a53:=Tryz.isAgg207
 z53:=Tryz.sizeOf207
 v53:=Tryz.zeroValue207
 t131:=Tryz.underlying188
 a131:=Tryz.isAgg188
 z131:=Tryz.sizeOf188
 v131:=Tryz.zeroValue188
 t182:=Tryz.underlying316
 a182:=Tryz.isAgg316
 z182:=Tryz.sizeOf316
 v182:=Tryz.zeroValue316
 t183:=Tryz.underlying317
 a183:=Tryz.isAgg317
 z183:=Tryz.sizeOf317
 v183:=Tryz.zeroValue317
 t218:=Tryz.underlying324
 a218:=Tryz.isAgg324
 z218:=Tryz.sizeOf324
 v218:=Tryz.zeroValue324
 t222:=Tryz.underlying161
 a222:=Tryz.isAgg161
 z222:=Tryz.sizeOf161
 v222:=Tryz.zeroValue161
 t228:=Tryz.underlying329
 a228:=Tryz.isAgg329
 z228:=Tryz.sizeOf329
 v228:=Tryz.zeroValue329
 t229:=Tryz.underlying224
 a229:=Tryz.isAgg224
 z229:=Tryz.sizeOf224
 v229:=Tryz.zeroValue224 }
open Go.Sort Go.RowKit in
theorem slices_Sort_int (blk off cap:Nat)(zs:List Int)(w:World)(hH:Holds (Value.int .i64) w blk off zs.toArray)(hblk:blk<w.heap.size)(hsz:zs.length<4611686018427387904):
 Calls Tryz.prog 229 #[.slice (some ⟨blk,off,none⟩) zs.length cap] w λe w'=>
  e=.returned (.tuple #[])/\∃n os,w'=grow (putRow (Value.int .i64) (Sort.ahead w n) blk off (zs.mergeSort λx y=>decide (x<=y)).toArray) os:=Any.slices_Sort_int Aj0 blk off cap zs w hH hblk hsz
def AaN:Go.Shelf.Ren:=⟨λ|20=>230|n=>n,λ|22=>22|3=>3|4=>4|0=>0|n=>n,λ|n=>n⟩
theorem AgU:Go.Proofs.Lays2.n20 Tryz.prog AaN:={
 mixed:=by kernel_rfl
 f20:=Tryz.func230.trans (congrArg some (by kernel_rfl))
 t0:=Tryz.underlying0
 a0:=Tryz.isAgg0
 z0:=Tryz.sizeOf0
 v0:=Tryz.zeroValue0
 t3:=Tryz.underlying3
 a3:=Tryz.isAgg3
 z3:=Tryz.sizeOf3
 v3:=Tryz.zeroValue3
 t4:=Tryz.underlying4
 a4:=Tryz.isAgg4
 z4:=Tryz.sizeOf4
 v4:=Tryz.zeroValue4
 t22:=Tryz.underlying22
 a22:=Tryz.isAgg22
 z22:=Tryz.sizeOf22
 v22:=Tryz.zeroValue22
 i3:=by kernel_rfl }
open Go.RowKit Go.Lib Go.Sort in
theorem slices_Compact_int (blk off cap:Nat)(zs:List Int)(w:World)(hH:Holds (Value.int .i64) w blk off zs.toArray)(hsz:zs.length<=9223372036854775807)(hcap:zs.length<=cap):
 Calls Tryz.prog 230 #[.slice (some ⟨blk,off,none⟩) zs.length cap] w λe w'=>e=.returned (.slice (some ⟨blk,off,none⟩) (Lib.compact zs).length cap)/\∃q,w'=putRow (Value.int .i64) (Sort.ahead w q) blk off (Lib.compact zs++List.replicate (zs.length-(Lib.compact zs).length) 0).toArray:=Any.slices_Compact_int AgU blk off cap zs w hH hsz hcap
end Go.Proofs.YtkoikjnlpifbjaaGreat
namespace Go.Proofs.YtkoikjnlpifbjaaGreat
open Go.RowKit Go.Deep
theorem Acb (d:Array Int)(cs:Array Value)(h:cs.size=d.size):Sort.putCells (Value.int .i64) 0 d cs=d.map (Value.int .i64):=by
 unfold Sort.putCells;apply Array.ext
 ·simp[h]
 ·intro i e c;have hi:i<d.size:=by simpa using c
  simp[hi]
theorem VH{w:World}{g:Nat}{t:TypeId}{cs:Array Value}(hr:Row w g t cs)(d:Array Int)(h:cs.size=d.size):Row (Sort.putRow (Value.int .i64) w g 0 d) g t (d.map (Value.int .i64))/\Only g w (Sort.putRow (Value.int .i64) w g 0 d):=by
 unfold Sort.putRow Sort.mapBlock;refine⟨?_,rfl,rfl,rfl,by simp,λk c=>?_⟩
 ·show(w.heap.modify g _)[g]? =_;rw[LV,if_pos rfl,show w.heap[g]? =some (.cells cs t (0,0))from hr];simp[Sort.onCells,Acb d cs h]
 ·show(w.heap.modify g _)[k]? =_;rw[LV,if_neg (Ne.symm c)]
theorem Abk{w:World}{g:Nat}{t:TypeId}{l:List Int}(hr:Row w g t (Qi l).toArray):Sort.Holds (Value.int .i64) w g 0 l.toArray:=λj hj=>by
 have c:j<l.length:=by simpa using hj
 refine⟨?_,by have:=hr.free (0+j);exact this⟩;have:=hr.cellv (i:=j) (v:=.int .i64 l[j]) (by simp[Qi,c]);rw[LG,this];simp[c]
theorem Ads (l:List Int):l.toArray.map (Value.int .i64)=(Qi l).toArray:=by simp[Qi]
structure OnRow (g:Nat)(w w':World):Prop where
 gr:w.grownBy w' (some g)
theorem OnRow.trans{g:Nat}{a b c:World}(h:OnRow g a b)(k:OnRow g b c):OnRow g a c:=⟨⟨k.gr.os.trans h.gr.os,k.gr.tape.trans h.gr.tape,k.gr.output.trans h.gr.output,Ld h.gr.size k.gr.size,λi hi hx=>(k.gr.block i (Lg hi h.gr.size) hx).trans (h.gr.block i hi hx)⟩⟩
theorem OnRow.of_below{g:Nat}{a b:World}(h:Below a.heap.size a b):OnRow g a b:=⟨⟨h.os,h.tape,h.output,h.size,λi hi _=>h.block i hi⟩⟩
theorem OnRow.of_only{g:Nat}{a b:World}(h:Only g a b):OnRow g a b:=⟨⟨h.os,h.tape,h.output,LD h.size.symm,λi _ hx=>h.block i (λe=>hx (by rw[e]))⟩⟩
theorem OnRow.below{g B:Nat}{a b:World}(h:OnRow g a b)(hg:B<=g)(hB:B<=a.heap.size):Below B a b:=⟨h.gr.os,h.gr.tape,h.gr.output,h.gr.size,λi hi=>h.gr.block i (by omega) (λe=>by injection e;omega)⟩
theorem OnRow.row{g k:Nat}{a b:World}{t:TypeId}{cs:Array Value}(h:OnRow g a b)(hr:Row a k t cs)(hk:k≠g):Row b k t cs:=(h.gr.block k hr.lt (λe=>hk (by injection e))).trans hr
theorem Ahj (g cap:Nat)(l:List Int)(w:World)(hr:Row w g 3 (Qi l).toArray)(hl:l.length<=1000):
 Calls Tryz.prog 229 #[.slice (some ⟨g,0,none⟩) l.length cap] w λe w'=>e=.returned (.tuple #[])/\Row w' g 3 (Qi (l.mergeSort λx y=>decide (x<=y))).toArray/\OnRow g w w':=by
 refine(slices_Sort_int g 0 cap l w (Abk hr) hr.lt (by omega)).mono ?_;rintro e w' ⟨rfl,n,d,rfl⟩;have i:Row (Sort.ahead w n) g 3 (Qi l).toArray:=hr.drewN n;obtain⟨c,j⟩:=VH i (l.mergeSort λx y=>decide (x<=y)).toArray (by simp[Qi]);rw[Ads]at c;have m:Below w.heap.size w (Sort.ahead w n):=Z0 (Below.refl _ _) n;have h:∀(W:World) (d:Array Obj),Below W.heap.size W (Sort.grow W d):=λW d=>⟨rfl,rfl,rfl,by simp[Sort.grow],λk o=>by simp[Sort.grow,Array.getElem?_append_left o]⟩;exact⟨rfl,c.below (h _ _) c.lt,(OnRow.of_below m).trans ((OnRow.of_only j).trans (OnRow.of_below (h _ _)))⟩
theorem AbV (g cap:Nat)(l:List Int)(w:World)(hr:Row w g 3 (Qi l).toArray)(hl:l.length<=1000)(hc:l.length<=cap):
 Calls Tryz.prog 230 #[.slice (some ⟨g,0,none⟩) l.length cap] w λe w'=>e=.returned (.slice (some ⟨g,0,none⟩) (Lib.compact l).length cap)/\Row w' g 3 (Qi (Lib.compact l++List.replicate (l.length-(Lib.compact l).length) 0)).toArray/\OnRow g w w':=by
 refine(slices_Compact_int g 0 cap l w (Abk hr) (by omega) hc).mono ?_;rintro e w' ⟨rfl,n,rfl⟩;have d:Row (Sort.ahead w n) g 3 (Qi l).toArray:=hr.drewN n
 have j:(Lib.compact l).length<=l.length:=by
  unfold Lib.compact Lib.compactUpTo;rw[Lu];have:=Ns (Lib.keeps l.toArray) (List.range l.length);rwa[List.length_range]at this
 obtain⟨c,h⟩:=VH d (Lib.compact l++List.replicate (l.length-(Lib.compact l).length) 0).toArray (by simp[Qi];omega);rw[Ads]at c;have i:Below w.heap.size w (Sort.ahead w n):=Z0 (Below.refl _ _) n;exact⟨rfl,c,(OnRow.of_below i).trans (OnRow.of_only h)⟩
theorem AbA (b:Nat)(but x:Int)(w:World)(hr:Row w b 3 #[.int .i64 but]):
 Calls Tryz.prog 232 #[.int .i64 x,.pointer (some ⟨b,0,none⟩)] w λe w'=>e=.returned (.bool (x==but))/\w=w':=by
 have c:=hr.cellv (i:=0) (v:=.int .i64 but) rfl;go_enter Tryz.func232,Tryz.ntmps232
 go_wp2
 go_ret
 exact⟨rfl,rfl⟩
theorem Akl{l z:List Int}{k:Nat}{x:Int}(hlt:k<l.length)(hx:l[k]? =some x):(Qi (l++z)).toArray[k]? =some (.int .i64 x):=by
 have:(Qi (l++z))[k]? =some (.int .i64 x):=by rw[JY,L3 (by rw[JZ];exact hlt)];simp[Qi,hx]
 simpa using this
theorem Aax{but:Int}{l:List Int}{k:Nat}{x:Int}(h:∀y∈l.take k,y≠but)(hx:l[k]? =some x)(hp:x≠but):∀y∈l.take (k+1),y≠but:=by
 rw[L9,hx];intro y c;rcases L2.1 c with c|c
 ·exact h y c
 ·simp at c;subst c;exact hp
theorem Aif (g cap b:Nat)(but:Int)(l z:List Int)(w:World)(hr:Row w g 3 (Qi (l++z)).toArray)(hb:Row w b 3 #[.int .i64 but])(hl:l.length<=1000):
 Calls Tryz.prog 235 #[.slice (some ⟨g,0,none⟩) l.length cap,.func (.func 232) #[] #[.pointer (some ⟨b,0,none⟩)]] w λe w'=>((∃i:Nat,e=.returned (.int .i64 (i:Int))/\l[i]? =some but/\∀x∈l.take i,x≠but)\/(e=.returned (.int .i64 (-1))/\∀x∈l,x≠but))/\w=w':=by
 have y:=Lh hr;have t:=Lh hb;have aa:(l.length:Int)<=1000:=by omega
 clear hr hb hl;go_enter Tryz.func235,Tryz.ntmps235
 go_wp2
 go_loop [8] (λi=>∃k:Nat,i=.int .i64 (k:Int)/\k<=l.length/\Hid (∀x∈l.take k,x≠but)) (λi=>l.length-(intOf i).toNat)
 case atStart=>exact⟨0,rfl,Nat.zero_le _,Lh (λx m=>by simp at m)⟩
 case round=>
  obtain⟨k,rfl,hk,c⟩:=hrel;by_cases h:k<l.length
  ·obtain⟨x,m⟩:∃x,l[k]? =some x:=⟨_,Lb h⟩;have q:=y.out.cellv (i:=k) (v:=.int .i64 x) (Akl h m);have n:=Lh m;have o:=Lh (AbA b but x w t.out);have s:(k:Int)<(l.length:Int):=by omega
   clear m h;go_wp2_with fail
   refine o.out.mono ?_;rintro e w' ⟨rfl,rfl⟩;by_cases j:x=but
   ·have d:(x==but)=true:=by simpa using j
    rw[d];have p:Hid (l[k]? =some but):=by show _=_;rw[n.out,j]
    clear j d o q n;go_wp2_with fail
    go_ret
    exact⟨.inl ⟨k,rfl,p.out,c.out⟩,rfl⟩
   ·have d:(x==but)=false:=by simpa using j
    rw[d];have u:=Lh (Aax c.out n.out j);clear j d o q n;go_wp2_with fail
    go_round
    case rel=>exact⟨k+1,by go_num,by omega,u⟩
    case measure=>simp[intOf];omega
  ·obtain rfl:k=l.length:=by omega
   have p:Hid (∀x∈l,x≠but):=by have:=c.out;rwa[LT]at this
   clear h hk;go_wp2
   go_ret
   exact⟨.inr ⟨rfl,p.out⟩,rfl⟩
structure Del (but:Int)(l z:List Int)(k:Nat)(cs:List Int):Prop where
 size:cs.length=(l++z).length
 head:cs.take ((l.take k).filter (· != but)).length=(l.take k).filter (· != but)
 tail:cs.drop k=(l++z).drop k
theorem Del.get{but:Int}{l z:List Int}{k:Nat}{cs:List Int}(h:Del but l z k cs){x:Int}(hx:l[k]? =some x):cs[k]? =some x:=by
 have c:=(La.1 hx).1;have:=congrArg (λm:List Int=>m[0]?) h.tail;simp only[Nn,Nat.add_zero]at this;rw[this,L3 c,hx]
theorem Del.skip{but:Int}{l z:List Int}{k:Nat}{cs:List Int}(h:Del but l z k cs){x:Int}(hx:l[k]? =some x)(hb:x=but):Del but l z (k+1) cs/\((l.take (k+1)).filter (· != but)).length=((l.take k).filter (· != but)).length:=by
 have e:(l.take (k+1)).filter (· != but)=(l.take k).filter (· != but):=by rw[L9,hx,N4];simp[hb]
 refine⟨⟨h.size,by rw[e];exact h.head,?_⟩,by rw[e]⟩;have:=congrArg (λm:List Int=>m.drop 1) h.tail;simpa[Nj]using this
theorem Del.put{but:Int}{l z:List Int}{k:Nat}{cs:List Int}(h:Del but l z k cs){x:Int}(hx:l[k]? =some x)(hb:x≠but)(hlt:((l.take k).filter (· != but)).length<k):Del but l z (k+1) (cs.set ((l.take k).filter (· != but)).length x)/\((l.take (k+1)).filter (· != but)).length=((l.take k).filter (· != but)).length+1:=by
 have i:=(La.1 hx).1;have e:(l.take (k+1)).filter (· != but)=(l.take k).filter (· != but)++[x]:=by rw[L9,hx,N4];simp[hb]
 have g:=h.size;rw[Le]at g;have d:=h.head;generalize c:((l.take k).filter (· != but)).length=n at*;refine⟨⟨by rw[LM];exact h.size,?_,?_⟩,by rw[e,Le,c];rfl⟩
 ·rw[e,Le,c,Nf,L9,List.take_set_of_le (Nat.le_refl _),d];congr 1;rw[List.getElem?_set,if_pos rfl,if_pos (by omega)];rfl
 ·rw[List.drop_set_of_lt (by omega)];have:=congrArg (λm:List Int=>m.drop 1) h.tail;simpa[Nj]using this
theorem Del.start{but:Int}{l z:List Int}{i:Nat}(hi:l[i]? =some but)(hall:∀x∈l.take i,x≠but):Del but l z (i+1) (l++z)/\((l.take (i+1)).filter (· != but)).length=i:=by
 have g:=(La.1 hi).1
 have e:(l.take (i+1)).filter (· != but)=l.take i:=by
  rw[L9,hi,N4,List.filter_eq_self.2 (λx d=>by simpa using hall x d)];simp
 have c:(l.take i).length=i:=by rw[L1];omega
 refine⟨⟨rfl,?_,rfl⟩,by rw[e,c]⟩;rw[e,c,No (by omega)]
theorem Aa9{g:Nat}{t:TypeId}:∀(n:Nat) {w:World} {cs:List Value} (o:Nat),Row w g t cs.toArray->o+n<=cs.length->∃cs':List Value,Row (w.setCells g o (List.replicate n (.int .i64 0))) g t cs'.toArray/\cs'.take o=cs.take o/\Only g w (w.setCells g o (List.replicate n (.int .i64 0)))
 |0,w,cs,o,h,_=>⟨cs,h,rfl,rfl,rfl,rfl,rfl,λ_ _=>rfl⟩
 |n+1,w,cs,o,h,hn=>by
  have h1:=h.set o (.int .i64 0)
  have o1:=Zl w g o (.int .i64 0)
  rw[show cs.toArray.setIfInBounds o (.int .i64 0)=(cs.set o (.int .i64 0)).toArray by simp]at h1
  obtain⟨cs',h2,h3,o2⟩:=Aa9 n (o+1) h1 (by simp;omega)
  refine⟨cs',h2,?_,⟨o2.os.trans o1.os,o2.tape.trans o1.tape,o2.output.trans o1.output,o2.size.trans o1.size,λk hk=>(o2.block k hk).trans (o1.block k hk)⟩⟩
  have:=congrArg (λm:List Value=>m.take o) h3
  simp only[NA]at this
  rw[show min o (o+1)=o by omega,List.take_set_of_le (Nat.le_refl _)]at this
  exact this
theorem Aam{P:Program}{o:Oper}{w w1:World}{ρ:Operand->Value}{s:Operand}{t:TypeId}(ho:o.op=.call { callee:=.builtin .clear,args:=#[s],argTypes:=#[t] }){v:Value}(hv:(Builtin.clear_ #[t] o.type #[ρ s]).run P w=.ok v w1):(execOp ρ o).run P w=.ok (.value v) w1:=by
 unfold execOp;simp only[ho,resolve,invoke,builtin,Sem.run_bind,Sem.run_pure,Result.andThen_ok,Nr,LP,Nv,hv]
theorem Ah0 (g cap b:Nat)(but:Int)(l z:List Int)(w:World)(hr:Row w g 3 (Qi (l++z)).toArray)(hb:Row w b 3 #[.int .i64 but])(hgb:b≠g)(hl:l.length<=1000)(hc:l.length<=cap)(hcm:cap<=maxLen):
 Calls Tryz.prog 231 #[.slice (some ⟨g,0,none⟩) l.length cap,.func (.func 232) #[] #[.pointer (some ⟨b,0,none⟩)]] w λe w'=>e=.returned (.slice (some ⟨g,0,none⟩) (l.filter (· != but)).length cap)/\OnRow g w w'/\∃cs:Array Value,Row w' g 3 cs/\∀(j:Nat) (u:Value),(Qi (l.filter (· != but)))[j]? =some u->cs[j]? =some u:=by
 have H1:=Lh (Aif g cap b but l z w hr hb hl);have Hb:=Lh hb;have Hr:=Lh hr;have a7:(l.length:Int)<=1000:=by omega
 have a2:(l.length:Int)<=(cap:Int):=by omega
 have ay:(cap:Int)<=9223372036854775807:=by unfold maxLen at hcm;omega
 clear hb hr hl hcm;go_enter Tryz.func231,Tryz.ntmps231
 go_wp2_with fail
 refine H1.out.mono ?_;clear H1;rintro e w' ⟨ao,rfl⟩;rcases ao with⟨i,rfl,hi,d⟩|⟨rfl,d⟩;rotate_left
 ·have he:l.filter (· != but)=l:=List.filter_eq_self.2 (λx hx=>by simpa using d x hx);have He:=Lh he;clear he d;go_wp2_with fail
  go_ret
  refine⟨by rw[He.out];rfl,OnRow.of_below (Below.refl _ _),_,Hr.out,λj u t=>?_⟩;rw[He.out]at t;rw[JY];simp only[N7];rw[L3 (La.1 t).1];exact t
 have a6:=(La.1 hi).1;obtain⟨aj,an⟩:=Del.start (z:=z) hi d;have hd:(l.take (i+1)).filter (· != but)=(l.take (i+1)).filter (· != but):=rfl;have aq:=Lh aj;have ah:=Lh an;have a5:(i:Int)<(l.length:Int):=by omega
 have a1:((i:Int)== -1)=false:=by simp
 clear d aj an hi hd;go_wp2_with fail
 go_loopw [5,6] (λa j wr=>∃(k:Nat) (cs:List Int),j=.int .i64 (k:Int)/\a=.int .i64 ((((l.take k).filter (· != but)).length:Nat):Int)/\k<=l.length/\((l.take k).filter (· != but)).length<k/\Hid (Del but l z k cs)/\Row wr g 3 (Qi cs).toArray/\OnRow g w wr) (λ_ j _=>l.length-(intOf j).toNat)
 case atStart=>exact⟨i+1,l++z,by go_num,by rw[ah.out],by omega,by rw[ah.out];omega,aq,Hr.out,OnRow.of_below (Below.refl _ _)⟩
 case round=>
  obtain⟨k,cs,rfl,rfl,hk,ak,Hd,c,h⟩:=hrel;by_cases ag:k<l.length
  ·obtain⟨x,hx⟩:∃x,l[k]? =some x:=⟨_,Lb ag⟩;have al:=Hd.out.get hx;have ai:=c.cellv (i:=k) (v:=.int .i64 x) (by simp[Qi,al]);have ac:=Lh (AbA b but x wr (h.row Hb.out hgb));have Hx:=Lh hx;have az:(k:Int)<(l.length:Int):=by omega
   clear hx ag al;go_wp2_with fail
   refine ac.out.mono ?_;rintro e w' ⟨rfl,rfl⟩;by_cases hs:x=but
   ·have s:(x==but)=true:=by simpa using hs
    rw[s];obtain⟨p,q⟩:=Hd.out.skip Hx.out hs;have ad:=Lh p;have o:=Lh q;clear hs s ac ai Hx p q;go_wp2_with fail
    go_roundw
    case rel=>exact⟨k+1,cs,by go_num,by rw[o.out],by omega,by rw[o.out];omega,ad,c,h⟩
    case measure=>simp[intOf];omega
   ·have s:(x==but)=false:=by simpa using hs
    rw[s];obtain⟨p,q⟩:=Hd.out.put Hx.out hs ak;generalize hn:((l.take k).filter (· != but)).length=n at*;have ad:=Lh p;have o:=Lh q;have aw:(n:Int)<(l.length:Int):=by omega
    have au:∃y,cs[n]? =some y:=⟨_,Lb (by have:=Hd.out.size;rw[Le]at this;omega)⟩;obtain⟨y,hy⟩:=au;have a3:=c.cellv (i:=n) (v:=.int .i64 y) (by simp[Qi,hy]);have a4:=c.free n;have o9:=Zl wr g n (.int .i64 x);have r9:=c.set n (.int .i64 x);rw[show(Qi cs).toArray.setIfInBounds n (.int .i64 x)=(Qi (cs.set n x)).toArray by simp[Qi]]at r9;have ax:=h.trans (OnRow.of_only o9);clear hs s ac ai Hx p q hy hn o9 c h;go_wp2_with fail
    go_roundw
    case rel=>exact⟨k+1,cs.set n x,by go_num,by rw[o.out];go_num,by omega,by rw[o.out];omega,ad,r9,ax⟩
    case measure=>simp[intOf];omega
  ·obtain rfl:k=l.length:=by omega
   have ae:(l.take l.length).filter (· != but)=l.filter (· != but):=by rw[LT]
   rw[ae]at ak|-;have ap:=Hd.out.size;have af:=Hd.out.head;rw[ae]at af;rw[Le]at ap;generalize hn:(l.filter (· != but)).length=n at*;have aw:(n:Int)<(l.length:Int):=by omega
   have a0:(n:Int)<=(cap:Int):=by omega
   obtain⟨ar,h2,h3,o2⟩:=Aa9 (l.length-n) (cs:=Qi cs) n c (by rw[JZ];omega)
   have ab:=Lib.run_clear_slice (P:=Tryz.prog) wr 22 3 0 (.int .i64 0) Tryz.underlying22 (λW=>by kernel_rfl) rfl rfl g n (l.length-n) (cap-n) (by omega) (λj t=>by
    have av:n+j<cs.length:=by omega
    rw[c.cellv (i:=n+j) (v:=.int .i64 cs[n+j]) (by simp[Qi,av])];rfl) (λj t=>c.free (n+j))
   have HF:Hid (OnRow g w (wr.setCells g n (List.replicate (l.length-n) (.int .i64 0)))/\∃cs:Array Value,Row (wr.setCells g n (List.replicate (l.length-n) (.int .i64 0))) g 3 cs/\∀(j:Nat) (u:Value),(Qi (l.filter (· != but)))[j]? =some u->cs[j]? =some u):=⟨h.trans (OnRow.of_only o2),_,h2,λj u t=>by
    have am:j<n:=by have:=(La.1 t).1;rw[JZ]at this;omega
    have e1:ar[j]? =(Qi cs)[j]? :=by
     have:=congrArg (λm:List Value=>m[j]?) h3
     simpa[List.getElem?_take,am]using this
    have e2:cs[j]? =(l.filter (· != but))[j]? :=by
     have:=congrArg (λm:List Int=>m[j]?) af
     simpa[List.getElem?_take,am]using this
    simp only[N7]
    rw[e1]
    simp only[Qi,L4]at t|-
    rw[e2];exact t⟩
   have aa:=Lh ab;clear ab h2 h3 o2 h c af ap Hd ae ag hk;generalize wr.setCells g n (List.replicate (l.length-n) (.int .i64 0))=w9 at HF aa;go_wp2_with (refine Zm rfl _ (Aam rfl aa.out) ?_)
   go_ret
   exact⟨by rw[hn];rfl,HF.out⟩
end Go.Proofs.YtkoikjnlpifbjaaGreat
