/- Lemmas for ArAll. -/
import Derived.Test.YtgnmkiafeplbpaaGreatDoorZf1
import Derived.Test.YtgnmkiafeplbpaaGreatDoorZf14
import Derived.Test.YtgnmkiafeplbpaaGreatDoorZf13
import Derived.Test.YtgnmkiafeplbpaaGreatDoorZf11
import Derived.Test.YtgnmkiafeplbpaaGreatDoorZf17
import Derived.Test.YtgnmkiafeplbpaaGreatDoorZf7
import Derived.Test.YtgnmkiafeplbpaaGreatDoorZf19
import Derived.Test.YtgnmkiafeplbpaaGreatDoorZf12
set_option linter.unusedVariables false
set_option linter.unusedSimpArgs false
set_option maxRecDepth 100000
set_option maxHeartbeats 16000000
namespace Go.Proofs.YtgnmkiafeplbpaaGreatDoor
open Go.RowKit Go.Deep
theorem Akf{params fuel:Int}{ts:List (List Int)}(h:ts.length<1\/20<ts.length):Zk params ts fuel=18:=by unfold Zk;rw[if_pos h]
theorem Akg{params fuel:Int}{ts:List (List Int)}{l:List Int}(hl:l∈ts)(h:¬(l.length:Int)=params):Zk params ts fuel=18:=by
 unfold Zk;split
 ·rfl
 ·rw[if_neg (λe=>h (e l hl))]
theorem Akh{params fuel:Int}{ts:List (List Int)}(h:¬(ts.length<1\/20<ts.length))(h2:∀l∈ts,(l.length:Int)=params):Zk params ts fuel=if fuel<1\/10000<fuel then 19 else 0:=by unfold Zk;rw[if_neg h,if_pos h2]
def QH (b:Bool)(e:Int):Int:=if b then 0 else e
theorem JB (b:Bool)(n:Int)(w:World):Calls Tryz.prog 135 #[.bool b,.int .i64 n] w λe w'=>e=.returned (.int .i64 (QH b n))/\w=w':=by
 cases b
 all_goals
  go_enter Tryz.func135,Tryz.ntmps135
  go_wp2
  go_ret
  exact⟨rfl,rfl⟩
theorem J5 (b:Bool)(n:Int)(w:World):Calls Tryz.prog 61 #[.bool b,.int .i64 n] w λe w'=>e=.returned (.int .i64 (QH b n))/\w=w':=by
 cases b
 all_goals
  go_enter Tryz.func61,Tryz.ntmps61
  go_wp2
  go_ret
  exact⟨rfl,rfl⟩
theorem AlB (P:Nat)(params:Int)(x:IntsV)(w:World)(hr:Row w P 3 #[.int .i64 params]):Calls Tryz.prog 132 #[x.val,.pointer (some ⟨P,0,none⟩)] w λe w'=>e=.returned (.bool ((x.l.length:Int) != params))/\Below w.heap.size w w':=by
 have c:=hr.cellv (i:=0) (v:=.int .i64 params) rfl;rw[show x.val=.slice x.addr x.l.length x.cap from rfl];go_enter Tryz.func132,Tryz.ntmps132
 go_wp2
 go_ret
 exact⟨rfl,Below.refl _ _⟩
theorem AhQ (P:Nat)(A:Option Addr)(cap:Nat)(l:List IntsV)(p:IntsV->Bool)(w:World)(S:World->Prop)[stS:St S](hS:S w)(hrd:∀W,S W->Rd W A (ZU l))(hlo:∀W,S W->Below w.heap.size w W)
 (hp:∀x∈l,∀W,S W->Calls Tryz.prog 132 #[.slice x.addr x.l.length x.cap,.pointer (some ⟨P,0,none⟩)] W λe W'=>e=.returned (.bool (p x))/\Below W.heap.size W W') (hl:l.length<=1000000):
 Calls Tryz.prog 204 #[.slice A l.length cap,.func (.func 132) #[] #[.pointer (some ⟨P,0,none⟩)]] w λe w'=>e=.returned (.int .i64 (AaM p l))/\Below w.heap.size w w':=by
 have v:=Lv hp;have o:=Lv hrd;have h:=Lv hlo;have aa:(l.length:Int)<=1000000:=by omega
 clear hp hrd hlo hl;go_enter Tryz.func204,Tryz.ntmps204
 go_wp2
 go_loopw [8] (λi wr=>∃k:Nat,i=.int .i64 (k:Int)/\k<=l.length/\Hid (∀y∈l.take k,p y=false)/\S wr) (λi _=>l.length-(intOf i).toNat)
 case atStart=>exact⟨0,rfl,Nat.zero_le _,Lv (λx d=>by simp at d),hS⟩
 case round=>
  clear hS;obtain⟨k,rfl,hk,a,hS⟩:=hrel;by_cases c:k<l.length
  ·obtain⟨x,d⟩:∃x,l[k]? =some x:=⟨_,Ld c⟩;obtain⟨z,q,m⟩:=ZT (o.out _ hS) d;have g:Hid (wr.cell? (z.add k)=some (.slice x.addr x.l.length x.cap)):=m;have n:=Lv d;have b:=Lv (v.out x (Li d) wr hS);have u:(k:Int)<(l.length:Int):=by omega
   clear d c m;subst q;(have s:=g.out);go_wp2_with fail;clear s;refine b.out.mono ?_;rintro e w' ⟨rfl,t⟩;replace hS:=stS.go hS t;clear t b g;cases hs:p x
   ·have j:=Lv (JA a.out n.out hs);clear hs n;go_wp2_with fail
    go_roundw
    case rel=>exact⟨k+1,by go_num,by omega,j,hS⟩
    case measure=>simp[intOf];omega
   ·have j:=Lv (YL a.out n.out hs);clear hs n;go_wp2_with fail
    go_ret
    exact⟨by rw[j.out];rfl,h.out _ hS⟩
  ·obtain rfl:k=l.length:=by omega
   have j:=Lv (U3 (p:=p) (l:=l) (by have:=a.out;rwa[LO]at this));clear c hk;go_wp2
   go_ret
   exact⟨by rw[j.out];rfl,h.out _ hS⟩
theorem Afu (P:Nat)(A:Option Addr)(cap:Nat)(l:List IntsV)(p:IntsV->Bool)(w:World)(S:World->Prop)[stS:St S](hS:S w)(hrd:∀W,S W->Rd W A (ZU l))(hlo:∀W,S W->Below w.heap.size w W)
 (hp:∀x∈l,∀W,S W->Calls Tryz.prog 132 #[.slice x.addr x.l.length x.cap,.pointer (some ⟨P,0,none⟩)] W λe W'=>e=.returned (.bool (p x))/\Below W.heap.size W W') (hl:l.length<=1000000):
 Calls Tryz.prog 137 #[.slice A l.length cap,.func (.func 132) #[] #[.pointer (some ⟨P,0,none⟩)]] w λe w'=>e=.returned (.bool (l.any p))/\Below w.heap.size w w':=by
 have a:=Lv (AhQ P A cap l p w S hS hrd hlo hp hl);clear hp hrd hlo hl hS;go_enter Tryz.func137,Tryz.ntmps137
 go_wp2_with fail
 refine a.out.mono ?_;rintro e w' ⟨rfl,c⟩;have b:=Lv (YK p l);clear a;go_wp2_with fail
 go_ret
 exact⟨QD b.out.symm,c⟩
theorem Akc (T:Nat)(A:Option Addr)(n cap:Nat)(w:World)(hr:Row w T 26 #[.slice A n cap]):
 Calls Tryz.prog 134 #[.pointer (some ⟨T,0,none⟩)] w λe w'=>e=.returned (.int .i64 (QH (decide (1<=n/\n<=20)) 18))/\Below w.heap.size w w':=by
 have c:=hr.cellv (i:=0) (v:=.slice A n cap) rfl;by_cases b:1<=n
 ·by_cases g:n<=20
  ·have d:(1:Int)<=(n:Int):=by omega
   have h:decide ((n:Int)<=20)=true:=by simp;omega
   have a:Hid (decide (1<=n/\n<=20)=true):=by show _=_;simp[b,g]
   clear b g;go_enter Tryz.func134,Tryz.ntmps134
   go_wp2_with fail
   refine(JB _ _ _).mono ?_;rintro e w' ⟨rfl,rfl⟩;go_wp2_with fail
   go_ret
   exact⟨by rw[a.out];rfl,Below.refl _ _⟩
  ·have d:(1:Int)<=(n:Int):=by omega
   have h:decide ((n:Int)<=20)=false:=by simp;omega
   have a:Hid (decide (1<=n/\n<=20)=false):=by show _=_;simp[g]
   clear b g;go_enter Tryz.func134,Tryz.ntmps134
   go_wp2_with fail
   refine(JB _ _ _).mono ?_;rintro e w' ⟨rfl,rfl⟩;go_wp2_with fail
   go_ret
   exact⟨by rw[a.out];rfl,Below.refl _ _⟩
 ·have d:(n:Int)<1:=by omega
  have a:Hid (decide (1<=n/\n<=20)=false):=by show _=_;simp[b]
  clear b;go_enter Tryz.func134,Tryz.ntmps134
  go_wp2_with fail
  refine(JB _ _ _).mono ?_;rintro e w' ⟨rfl,rfl⟩;go_wp2_with fail
  go_ret
  exact⟨by rw[a.out];rfl,Below.refl _ _⟩
theorem Ake (F:Nat)(fuel:Int)(w:World)(hr:Row w F 3 #[.int .i64 fuel]):
 Calls Tryz.prog 138 #[.pointer (some ⟨F,0,none⟩)] w λe w'=>e=.returned (.int .i64 (QH (decide (1<=fuel/\fuel<=10000)) 19))/\Below w.heap.size w w':=by
 have c:=hr.cellv (i:=0) (v:=.int .i64 fuel) rfl;by_cases d:1<=fuel
 ·by_cases b:fuel<=10000
  ·have g:decide (fuel<=10000)=true:=by simp;omega
   have a:Hid (decide (1<=fuel/\fuel<=10000)=true):=by show _=_;simp[d,b]
   clear b;go_enter Tryz.func138,Tryz.ntmps138
   go_wp2_with fail
   refine(JB _ _ _).mono ?_;rintro e w' ⟨rfl,rfl⟩;go_wp2_with fail
   go_ret
   exact⟨by rw[a.out];rfl,Below.refl _ _⟩
  ·have g:decide (fuel<=10000)=false:=by simp;omega
   have a:Hid (decide (1<=fuel/\fuel<=10000)=false):=by show _=_;simp[b]
   clear b;go_enter Tryz.func138,Tryz.ntmps138
   go_wp2_with fail
   refine(JB _ _ _).mono ?_;rintro e w' ⟨rfl,rfl⟩;go_wp2_with fail
   go_ret
   exact⟨by rw[a.out];rfl,Below.refl _ _⟩
 ·have h:fuel<1:=by omega
  have a:Hid (decide (1<=fuel/\fuel<=10000)=false):=by show _=_;simp[d]
  clear d;go_enter Tryz.func138,Tryz.ntmps138
  go_wp2_with fail
  refine(JB _ _ _).mono ?_;rintro e w' ⟨rfl,rfl⟩;go_wp2_with fail
  go_ret
  exact⟨by rw[a.out];rfl,Below.refl _ _⟩
theorem Akd (T O P:Nat)(A:Option Addr)(cap:Nat)(l:List IntsV)(params:Int)(w:World)(hr:Rd w A (ZU l))(hl:l.length<=1000000)(rT:Row w T 26 #[.slice A l.length cap])(rO:Row w O 181 #[.func (.func 132) #[] #[.pointer (some ⟨P,0,none⟩)]])(rP:Row w P 3 #[.int .i64 params]):
 Calls Tryz.prog 136 #[.pointer (some ⟨T,0,none⟩),.pointer (some ⟨O,0,none⟩)] w λe w'=>e=.returned (.int .i64 (QH (!l.any λx=>(x.l.length:Int) != params) 18))/\Below w.heap.size w w':=by
 have j:=rT.cellv (i:=0) (v:=.slice A l.length cap) rfl;have k:=rO.cellv (i:=0) (v:=.func (.func 132) #[] #[.pointer (some ⟨P,0,none⟩)]) rfl;have a:=Lv (Afu P A cap l (λx=>(x.l.length:Int) != params) w (λW=>(Rd W A (ZU l)/\Row W P 3 #[.int .i64 params])/\Below w.heap.size w W) ⟨⟨hr,rP⟩,Below.refl _ _⟩ (λW h=>h.1.1) (λW h=>h.2) (λx _ W h=>AlB P params x W h.1.2) hl);clear rT rO rP hr hl;go_enter Tryz.func136,Tryz.ntmps136
 go_wp2_with fail
 refine a.out.mono ?_;rintro e m ⟨rfl,g⟩;clear a j k;generalize c:(l.any λx=>(x.l.length:Int) != params)=b;have d:=Lv c;clear c;cases b
 all_goals
  go_wp2_with fail
  refine(JB _ _ _).mono ?_
  rintro e w' ⟨rfl,rfl⟩
  go_wp2_with fail
  go_ret
  exact⟨by rw[d.out];rfl,g⟩
theorem AhG (M T O F:Nat)(e1 e2 e3:Int)(w:World)(S S2:World->Prop)[stS:St S](hS:S w)(hs:∀W,S W->Row W M 100 #[.func (.func 134) #[] #[.pointer (some ⟨T,0,none⟩)],.func (.func 136) #[] #[.pointer (some ⟨T,0,none⟩),.pointer (some ⟨O,0,none⟩)],.func (.func 138) #[] #[.pointer (some ⟨F,0,none⟩)]]/\S2 W)(hlo:∀W,S W->Below w.heap.size w W)
 (h2:∀W,S2 W->Calls Tryz.prog 134 #[.pointer (some ⟨T,0,none⟩)] W λe W'=>e=.returned (.int .i64 e1)/\Below W.heap.size W W')
 (h3:∀W,S2 W->Calls Tryz.prog 136 #[.pointer (some ⟨T,0,none⟩),.pointer (some ⟨O,0,none⟩)] W λe W'=>e=.returned (.int .i64 e2)/\Below W.heap.size W W')
 (h4:∀W,S2 W->Calls Tryz.prog 138 #[.pointer (some ⟨F,0,none⟩)] W λe W'=>e=.returned (.int .i64 e3)/\Below W.heap.size W W'):
 Calls Tryz.prog 133 #[.slice (some ⟨M,0,none⟩) 3 3] w λe w'=>e=.returned (.int .i64 (orL [e1,e2,e3]))/\Below w.heap.size w w':=by
 have y:=Lv h2;have z:=Lv h3;have H4:=Lv h4;have q:=Lv hs;have h:=Lv hlo;clear h2 h3 h4 hs hlo;go_enter Tryz.func133,Tryz.ntmps133
 go_wp2
 go_loopw [8] (λi wr=>∃k:Nat,i=.int .i64 (k:Int)/\k<=3/\Hid (∀j:Nat,j<k->([e1,e2,e3]:List Int)[j]? =some 0)/\S wr) (λi _=>3-(intOf i).toNat)
 case atStart=>exact⟨0,rfl,Nat.zero_le _,Lv (λj u=>by omega),hS⟩
 case round=>
  clear hS;obtain⟨k,rfl,hk,l,hS⟩:=hrel;have x:k=0\/k=1\/k=2\/k=3:=by omega
  clear hk;rcases x with rfl|rfl|rfl|rfl
  ·skip;have a:=(q.out _ hS).1;have s:=a.cellv (i:=0) (v:=.func (.func 134) #[] #[.pointer (some ⟨T,0,none⟩)]) rfl;have m:=Lv (y.out wr ((q.out _ hS).2));clear a;go_wp2_with fail
   refine m.out.mono ?_;rintro e w' ⟨rfl,n⟩;replace hS:=stS.go hS n;clear s m n;by_cases b:e1=0
   ·have d:(e1 != 0)=false:=by simp[b]
    have c:Hid (∀j:Nat,j<0+1->([e1,e2,e3]:List Int)[j]? =some 0):=λj u=>by
     by_cases g:j<0
     ·exact l.out j g
     ·obtain rfl:j=0:=by omega
      simp[b]
    clear b;go_wp2_with fail
    go_roundw
    case rel=>exact⟨0+1,by go_num,by omega,c,hS⟩
    case measure=>simp[intOf]
   ·have d:(e1 != 0)=true:=by simpa using b
    have p:Hid (orL [e1,e2,e3]=e1):=by
     show _=_;simp[orL,b]
    clear b;go_wp2_with fail
    go_ret
    exact⟨by rw[p.out];rfl,h.out _ hS⟩
  ·skip;have a:=(q.out _ hS).1;have s:=a.cellv (i:=1) (v:=.func (.func 136) #[] #[.pointer (some ⟨T,0,none⟩),.pointer (some ⟨O,0,none⟩)]) rfl;have m:=Lv (z.out wr ((q.out _ hS).2));clear a;go_wp2_with fail
   refine m.out.mono ?_;rintro e w' ⟨rfl,n⟩;replace hS:=stS.go hS n;clear s m n;by_cases b:e2=0
   ·have d:(e2 != 0)=false:=by simp[b]
    have c:Hid (∀j:Nat,j<1+1->([e1,e2,e3]:List Int)[j]? =some 0):=λj u=>by
     by_cases g:j<1
     ·exact l.out j g
     ·obtain rfl:j=1:=by omega
      simp[b]
    clear b;go_wp2_with fail
    go_roundw
    case rel=>exact⟨1+1,by go_num,by omega,c,hS⟩
    case measure=>simp[intOf]
   ·have d:(e2 != 0)=true:=by simpa using b
    have p:Hid (orL [e1,e2,e3]=e2):=by
     show _=_;have o:=l.out 0 (by omega);simp at o;simp[orL,o,b]
    clear b;go_wp2_with fail
    go_ret
    exact⟨by rw[p.out];rfl,h.out _ hS⟩
  ·skip;have a:=(q.out _ hS).1;have s:=a.cellv (i:=2) (v:=.func (.func 138) #[] #[.pointer (some ⟨F,0,none⟩)]) rfl;have m:=Lv (H4.out wr ((q.out _ hS).2));clear a;go_wp2_with fail
   refine m.out.mono ?_;rintro e w' ⟨rfl,n⟩;replace hS:=stS.go hS n;clear s m n;by_cases b:e3=0
   ·have d:(e3 != 0)=false:=by simp[b]
    have c:Hid (∀j:Nat,j<2+1->([e1,e2,e3]:List Int)[j]? =some 0):=λj u=>by
     by_cases g:j<2
     ·exact l.out j g
     ·obtain rfl:j=2:=by omega
      simp[b]
    clear b;go_wp2_with fail
    go_roundw
    case rel=>exact⟨2+1,by go_num,by omega,c,hS⟩
    case measure=>simp[intOf]
   ·have d:(e3 != 0)=true:=by simpa using b
    have p:Hid (orL [e1,e2,e3]=e3):=by
     show _=_;have o:=l.out 0 (by omega);have t:=l.out 1 (by omega);simp at o t;simp[orL,o,t,b]
    clear b;go_wp2_with fail
    go_ret
    exact⟨by rw[p.out];rfl,h.out _ hS⟩
  ·have p:Hid (orL [e1,e2,e3]=0):=by
     show _=_;have o:=l.out 0 (by omega);have t:=l.out 1 (by omega);have h2:=l.out 2 (by omega);simp at o t h2;simp[orL,o,t,h2]
   go_wp2
   go_ret
   exact⟨by rw[p.out];rfl,h.out _ hS⟩
theorem Ais (params fuel:Int)(l:List IntsV):orL [QH (decide (1<=l.length/\l.length<=20)) 18,QH (!l.any λx=>(x.l.length:Int) != params) 18,QH (decide (1<=fuel/\fuel<=10000)) 19]=Zk params (l.map IntsV.l) fuel:=by
 unfold QH;by_cases c:(l.map IntsV.l).length<1\/20<(l.map IntsV.l).length
 ·rw[Akf c];rw[L7]at c;have:¬(1<=l.length/\l.length<=20):=by omega
  simp[orL,this]
 ·by_cases h:∀t∈l.map IntsV.l,(t.length:Int)=params
  ·rw[Akh c h];rw[L7]at c;have d:1<=l.length/\l.length<=20:=by omega
   have g:(l.any λx=>(x.l.length:Int) != params)=false:=by
    rw[Nq];intro x b;have:=h x.l (NA b);simp[this]
   by_cases j:1<=fuel/\fuel<=10000
   ·have e:(if fuel<1\/10000<fuel then(19:Int)else 0)=0:=if_neg (by omega);rw[e];simp[orL,d,g,j]
   ·have e:(if fuel<1\/10000<fuel then(19:Int)else 0)=19:=if_pos (by omega);rw[e];simp[orL,d,g,j]
  ·have i:∃x∈l,¬(x.l.length:Int)=params:=by
     refine Classical.byContradiction λk=>h λt m=>?_
     obtain⟨x,b,rfl⟩:=LL.1 m;exact Classical.byContradiction λa=>k ⟨x,b,a⟩
   obtain⟨x,b,a⟩:=i;rw[Akg (NA b) a];rw[L7]at c;have d:1<=l.length/\l.length<=20:=by omega
   have g:(l.any λx=>(x.l.length:Int) != params)=true:=by
    rw[List.any_eq_true];exact⟨x,b,by simpa using a⟩
   simp[orL,d,g]
theorem AkC (w:World):(zeroValue 181).run Tryz.prog w=.ok .nilFunc w:=by kernel_rfl
theorem Aln:(Tryz.prog.info? 100).map (λi=>(i.zero,i.size))=some (some .nilFunc,1):=by kernel_rfl
theorem AcV (params fuel:Int)(A:Option Addr)(cap:Nat)(l:List IntsV)(w:World)(hr:Rd w A (ZU l))(hl:l.length<=1000000):
 Calls Tryz.prog 64 #[.int .i64 params,.slice A l.length cap,.int .i64 fuel] w λe w'=>e=.returned (.int .i64 (Zk params (l.map IntsV.l) fuel))/\Below w.heap.size w w':=by
 have Hr:=Lv hr;have Hl:=Lv hl;clear hr hl;go_enter Tryz.func64,Tryz.ntmps64
 go_wp2_with (refine Qx _ _ rfl ?_)
 refine Stop.to ?_;refine Qf rfl 3 _ rfl #[.int .i64 params] rfl ?_;intro P Pw Ph m Pb;go_wp2_with (refine Qx _ _ rfl ?_)
 refine Stop.to ?_;refine Qf rfl 26 _ rfl #[.slice A l.length cap] rfl ?_;intro T Tw t Tr n;go_wp2_with (refine Qx _ _ rfl ?_)
 refine Stop.to ?_;refine Qf rfl 3 _ rfl #[.int .i64 fuel] rfl ?_;intro F Fw p Fr k;have c:=(m.below n (Lg m.lt t)).below k (by have:=m.lt;have:=n.size;omega);have d:=Tr.below k (Lg Tr.lt p);have b:=Fr;have u:=(Below.refl w.heap.size w).trans (Pb.mono Ph);have y:=u.trans ((n.mono t).mono u.size);have z:=y.trans ((k.mono p).mono y.size);clear m Tr Fr Pb n k Ph t p u y;go_wp2_with (refine Qs _ rfl ?_)
 refine Stop.to ?_;refine Qi rfl 181 rfl _ _ (AkC _) rfl ?_;intro O Ow s Or Ob;go_wp2_with (refine Qk _ _ _ rfl ?_)
 refine Stop.to ?_;refine Qt rfl 181 _ _ rfl O 0 rfl (.func (.func 132) #[] #[.pointer (some ⟨P,0,none⟩)]) rfl [.func (.func 132) #[] #[.pointer (some ⟨P,0,none⟩)]] rfl 181 _ #[.func (.func 132) #[] #[.pointer (some ⟨P,0,none⟩)]] Or (by kernel_rfl) (by show 0+1<=1;omega) (by simp[Value.oneCell']) rfl ?_;intro Ox j Oo;have i:=(Ob.mono s).trans (Oo.below s);replace c:=c.below i c.lt;replace d:=d.below i d.lt;replace b:=b.below i b.lt;have b4:=z.trans (i.mono z.size);clear Or Ob s Oo i z;go_wp2_with (refine QY _ _ _ rfl ?_)
 refine Stop.to ?_;refine Qw rfl 201 3 _ rfl 100 #[.func (.func 134) #[] #[.pointer (some ⟨T,0,none⟩)],.func (.func 136) #[] #[.pointer (some ⟨T,0,none⟩),.pointer (some ⟨O,0,none⟩)],.func (.func 138) #[] #[.pointer (some ⟨F,0,none⟩)]] (Kl Tryz.underlying201 Aln (by decide) (by decide) (by kernel_rfl)) ?_;intro M q Mh Mr Mb;have g:=Mb.mono Mh;replace c:=c.below g c.lt;replace d:=d.below g d.lt;replace b:=b.below g b.lt;replace j:=j.below g j.lt;have o:=b4.trans (g.mono b4.size)
 have a:=AhG M T O F (QH (decide (1<=l.length/\l.length<=20)) 18) (QH (!l.any λx=>(x.l.length:Int) != params) 18) (QH (decide (1<=fuel/\fuel<=10000)) 19) q
  (λW=>(Row W M 100 #[.func (.func 134) #[] #[.pointer (some ⟨T,0,none⟩)],.func (.func 136) #[] #[.pointer (some ⟨T,0,none⟩),.pointer (some ⟨O,0,none⟩)],.func (.func 138) #[] #[.pointer (some ⟨F,0,none⟩)]]/\(Rd W A (ZU l)/\Row W T 26 #[.slice A l.length cap]/\Row W O 181 #[.func (.func 132) #[] #[.pointer (some ⟨P,0,none⟩)]]/\Row W P 3 #[.int .i64 params]/\Row W F 3 #[.int .i64 fuel]))/\Below q.heap.size q W)
  (λW=>Rd W A (ZU l)/\Row W T 26 #[.slice A l.length cap]/\Row W O 181 #[.func (.func 132) #[] #[.pointer (some ⟨P,0,none⟩)]]/\Row W P 3 #[.int .i64 params]/\Row W F 3 #[.int .i64 fuel])
  ⟨⟨Mr,Hr.out.go o,d,j,c,b⟩,Below.refl _ _⟩ (λW h=>h.1) (λW h=>h.2)
  (λW h=>Akc T A l.length cap W h.2.1) (λW h=>Akd T O P A cap l params W h.1 Hl.out h.2.1 h.2.2.1 h.2.2.2.1) (λW h=>Ake F fuel W h.2.2.2.2)
 rw[Ais]at a;have Hf:=Lv a;clear a c d b j Mr Mb g Mh b4;go_wp2_with fail
 refine Hf.out.mono ?_;rintro e w9 ⟨rfl,b9⟩;have v:=o.trans (b9.mono o.size);clear Hf b9 o;go_wp2_with fail
 go_ret
 exact⟨rfl,v⟩
theorem AgL{W:World}{A:Addr}{x:MtV}(h:∀j u,x.cells[j]? =some u->W.cell? (A.add j)=some u):∀j v,x.dl.cells.toList[j]? =some v->W.cell? (A.add j)=some v:=λj v hj=>h j v (by
 match j,hj with
 |0,hj|1,hj|2,hj=>exact hj
 |j+3,hj=>simp[DlV.cells]at hj)
theorem AdZ{l:List Mt}{k:Nat}{x:Mt}(hx:l[k]? =some x)(v:Int):ZM (l.take (k+1)) v=ZM (l.take k) v+if x.verdict=v then 1 else 0:=by
 unfold ZM;rw[L5,hx,N1];by_cases h:x.verdict=v<;>simp[h]
theorem VR (l:List Mt)(k:Nat)(v:Int):0<=ZM (l.take k) v/\ZM (l.take k) v<=k:=by
 unfold ZM;have a:=Nu (λm:Mt=>m.verdict==v) (l.take k);have b:(l.take k).length<=k:=NB _ _;omega
theorem Amr (a b c d:Value):Adn #[a,b,c] 0 [d]=#[d,b,c]:=rfl
theorem Ams (a b c d:Value):Adn #[a,b,c] 1 [d]=#[a,d,c]:=rfl
theorem Amt (a b c d:Value):Adn #[a,b,c] 2 [d]=#[a,b,d]:=rfl
theorem Ail (A:Option Addr)(cap:Nat)(l:List MtV)(w:World)(hr:Rd w A (ZH l))(hl:l.length<=1000000):
 Calls Tryz.prog 72 #[.slice A l.length cap] w λe w'=>e=.returned (.agg (Zf (l.map MtV.m)).cells)/\Below w.heap.size w w':=by
 have Hr:=Lv hr;have ai:(l.length:Int)<=1000000:=by omega
 clear hr hl;have zc:=Ae3;go_enter Tryz.func72,Tryz.ntmps72
 go_wp2_with (first|fail| (refine Qs _ rfl ?_))
 refine Stop.to ?_;refine Qi rfl 29 rfl _ _ (Yo _) rfl ?_;intro R Rw Rh Rr Rb;go_wp2_with (first|fail| (refine Qs _ rfl ?_))
 refine Stop.to ?_;refine Qi rfl 186 rfl _ _ (zc _) rfl ?_;intro C Cw Ch Cr Cb;have c:=Rr.below Cb (Lg Rr.lt Ch);have t:R≠C:=by have:=Rr.lt;omega
 have b1:=(Below.refl w.heap.size w).trans (Rb.mono Rh);have b2:=b1.trans ((Cb.mono Ch).mono b1.size);have hC:w.heap.size<=C:=Lj b1.size Ch;have hR:w.heap.size<=R:=Rh;clear Rr Rb Cb b1 zc Rh Ch;have b:=Cr;clear Cr;go_wp2_with fail
 go_loopw [8] (λi wr=>∃k:Nat,i=.int .i64 (k:Int)/\k<=l.length/\Row wr R 29 #[.int .i64 0,.int .i64 0,.int .i64 0]/\Row wr C 186 (Zf ((l.map MtV.m).take k)).cells/\Below w.heap.size w wr) (λi _=>l.length-(intOf i).toNat)
 case atStart=>exact⟨0,rfl,Nat.zero_le _,c,b,b2⟩
 case round=>
  clear c b b2;obtain⟨k,rfl,hk,c,b,a⟩:=hrel;by_cases u:k<l.length
  ·obtain⟨x,hx⟩:∃x,l[k]? =some x:=⟨_,Ld u⟩;obtain⟨ad,ac,ab⟩:=KM (Hr.out.go a) hx;have hs:=λv=>AdZ (l:=l.map MtV.m) (k:=k) (x:=x.m) (by simp[hx]) v
   have d:=Lv (hs 0);have g:=Lv (hs 1);have h:=Lv (hs 2);have af:=VR (l.map MtV.m) k 0;have ag:=VR (l.map MtV.m) k 1;have ah:=VR (l.map MtV.m) k 2;have ae:(k:Int)<(l.length:Int):=by omega
   have aa:=Lv ab;clear hx u ab hs;subst ac;go_wp2_with (first| (refine Qn rfl 95 _ rfl (ad.add (k*8)) rfl x.cells _ (aa.out) Tryz.underlying95 rfl (by kernel_rfl) ?_)| (refine Qs _ rfl ?_))
   refine Stop.to ?_;refine Qi rfl 95 rfl _ _ (VL _) rfl ?_;intro G Gw Gh Gr Gb;go_wp2_with (refine Qk _ _ _ rfl ?_)
   refine Stop.to ?_;refine Qh rfl 95 _ _ rfl G x.cells.toArray rfl rfl 95 _ Gr (by kernel_rfl) rfl (Adj _) ?_;intro z Gs Go;have Gc:=(Gb.mono Gh).trans (Go.below Gh);clear Gb Gr Go;replace c:=c.below Gc c.lt;replace b:=b.below Gc b.lt;replace a:=a.trans (Gc.mono a.size);have n:=Gs.cellv (i:=3) (v:=.int .i64 x.m.verdict) rfl;clear aa Gc Gh;rw[show(Zf ((l.map MtV.m).take k)).cells=#[.int .i64 (ZM ((l.map MtV.m).take k) 0),.int .i64 (ZM ((l.map MtV.m).take k) 1),.int .i64 (ZM ((l.map MtV.m).take k) 2)]from rfl]at b;generalize ZM ((l.map MtV.m).take k) 0=n0 at*;generalize ZM ((l.map MtV.m).take k) 1=n1 at*;generalize ZM ((l.map MtV.m).take k) 2=n2 at*;by_cases h0:x.m.verdict=0
   ·have s:Hid ((Zf ((l.map MtV.m).take (k+1))).cells=#[.int .i64 (n0+1),.int .i64 n1,.int .i64 n2]):=by
      show _=_;unfold Zf Sc.cells;simp only[d.out,g.out,h.out,h0];simp
    have j:x.m.verdict=0:=h0;have c3:z.cell? ⟨G,3,none⟩=some (.int .i64 0):=by rw[<-j];exact n
    have c4:z.cell? ⟨C,0,none⟩=some (.int .i64 n0):=b.cellv (i:=0) rfl;clear h0 j n d g h Gs;go_wp2_with (refine Qk _ _ _ rfl ?_)
    refine Stop.to ?_;refine Qt rfl 3 _ _ rfl C 0 rfl (.int .i64 (n0+1)) (by first|rfl| (simp;done)) [.int .i64 (n0+1)] rfl 186 _ _ b (by kernel_rfl) (by simp) (by simp[Value.oneCell']) (Amr _ _ _ _) ?_
    intro W9 y o;have p:=a.trans (o.below hC);have q:=c.only o t;clear o b c a c3 c4;go_wp2_with fail
    go_roundw
    case rel=>exact⟨k+1,by go_num,by omega,q,by rw[s.out];exact y,p⟩
    case measure=>simp[intOf];omega
   by_cases h1:x.m.verdict=1
   ·have s:Hid ((Zf ((l.map MtV.m).take (k+1))).cells=#[.int .i64 n0,.int .i64 (n1+1),.int .i64 n2]):=by
      show _=_;unfold Zf Sc.cells;simp only[d.out,g.out,h.out,h1];simp
    have j:x.m.verdict=1:=h1;have c3:z.cell? ⟨G,3,none⟩=some (.int .i64 1):=by rw[<-j];exact n
    have c4:z.cell? ⟨C,1,none⟩=some (.int .i64 n1):=b.cellv (i:=1) rfl;clear h1 j n d g h Gs;go_wp2_with (refine Qk _ _ _ rfl ?_)
    refine Stop.to ?_;refine Qt rfl 3 _ _ rfl C 1 rfl (.int .i64 (n1+1)) (by first|rfl| (simp;done)) [.int .i64 (n1+1)] rfl 186 _ _ b (by kernel_rfl) (by simp) (by simp[Value.oneCell']) (Ams _ _ _ _) ?_
    intro W9 y o;have p:=a.trans (o.below hC);have q:=c.only o t;clear o b c a c3 c4;go_wp2_with fail
    go_roundw
    case rel=>exact⟨k+1,by go_num,by omega,q,by rw[s.out];exact y,p⟩
    case measure=>simp[intOf];omega
   by_cases h2:x.m.verdict=2
   ·have s:Hid ((Zf ((l.map MtV.m).take (k+1))).cells=#[.int .i64 n0,.int .i64 n1,.int .i64 (n2+1)]):=by
      show _=_;unfold Zf Sc.cells;simp only[d.out,g.out,h.out,h2];simp
    have j:x.m.verdict=2:=h2;have c3:z.cell? ⟨G,3,none⟩=some (.int .i64 2):=by rw[<-j];exact n
    have c4:z.cell? ⟨C,2,none⟩=some (.int .i64 n2):=b.cellv (i:=2) rfl;clear h2 j n d g h Gs;go_wp2_with (refine Qk _ _ _ rfl ?_)
    refine Stop.to ?_;refine Qt rfl 3 _ _ rfl C 2 rfl (.int .i64 (n2+1)) (by first|rfl| (simp;done)) [.int .i64 (n2+1)] rfl 186 _ _ b (by kernel_rfl) (by simp) (by simp[Value.oneCell']) (Amt _ _ _ _) ?_
    intro W9 y o;have p:=a.trans (o.below hC);have q:=c.only o t;clear o b c a c3 c4;go_wp2_with fail
    go_roundw
    case rel=>exact⟨k+1,by go_num,by omega,q,by rw[s.out];exact y,p⟩
    case measure=>simp[intOf];omega
   have s:Hid ((Zf ((l.map MtV.m).take (k+1))).cells=#[.int .i64 n0,.int .i64 n1,.int .i64 n2]):=by
    show _=_;unfold Zf Sc.cells;simp only[d.out,g.out,h.out,if_neg h0,if_neg h1,if_neg h2];simp
   clear d g h Gs;by_cases h3:x.m.verdict<0
   ·clear h0 h1 h2;go_wp2_with fail
    go_roundw
    case rel=>exact⟨k+1,by go_num,by omega,c,by rw[s.out];exact b,a⟩
    case measure=>simp[intOf];omega
   ·have h4:0<=x.m.verdict:=by omega
    have h5:3<=x.m.verdict:=by omega
    clear h0 h1 h2 h3;go_wp2_with fail
    go_roundw
    case rel=>exact⟨k+1,by go_num,by omega,c,by rw[s.out];exact b,a⟩
    case measure=>simp[intOf];omega
  ·obtain rfl:k=l.length:=by omega
   rw[show(l.map MtV.m).take l.length=l.map MtV.m from Lm (by simp)]at b;have Hb:=Lv (Agg (Zf (l.map MtV.m)) wr);clear hk u;go_wp2_with (refine wpList_load_row rfl 186 _ rfl C rfl 186 (Zf (l.map MtV.m)).cells (0,0) _ b Tryz.underlying186 rfl (by kernel_rfl) ?_)
   refine Hb.out.mono ?_;rintro e w1 ⟨rfl,b3⟩;replace c:=c.below b3 c.lt;replace a:=a.trans (b3.mono a.size);clear b3 Hb b;go_wp2_with (refine Qk _ _ _ rfl ?_)
   refine Stop.to ?_;refine Qh rfl 29 _ _ rfl R (Zf (l.map MtV.m)).cells rfl rfl 29 _ c (by kernel_rfl) rfl (by simp[Value.oneCell',Sc.cells]) ?_;intro W9 y o;go_wp2_with fail
   refine bodyPost_ret (results_cell_row Tryz.results72 _ _ R 29 _ (0,0) _ rfl y Tryz.underlying29 rfl (by kernel_rfl)) rfl ?_;exact⟨rfl,a.trans (o.below hR)⟩
theorem Aie (A:Option Addr)(cap n:Nat)(l:List MtV)(w:World)(hn:n=l.length)(hr:Rd w A (ZH l))(hl:l.length<=1000000)(hok:∀x∈l,MtOk w x):
 Calls Tryz.prog 67 #[.slice A n cap] w λe w'=>e=.returned (.bool (YX (l.map MtV.m)))/\Below w.heap.size w w':=by
 have Hn:=Lv hn;have ai:(n:Int)<=1000000:=by omega
 obtain⟨S,b⟩:∃S,S=(λW=>Rd W A (ZH l)/\(∀x∈l,MtOk W x)/\Below w.heap.size w W):=⟨_,rfl⟩;have aj:St S:=by rw[b];infer_instance
 have T1:Hid (∀W,S W->Rd W A (ZH l)):=by show ∀W,_;rw[b];exact λW h=>h.1
 have T2:Hid (∀W,S W->∀x∈l,MtOk W x):=by show ∀W,_;rw[b];exact λW h=>h.2.1
 have T4:Hid (∀W,S W->Below w.heap.size w W):=by show ∀W,_;rw[b];exact λW h=>h.2.2
 have a:S w:=by rw[b];exact⟨hr,hok,Below.refl _ _⟩
 clear b hl hn hr hok;go_enter Tryz.func67,Tryz.ntmps67
 go_wp2_with fail
 go_loopw [6] (λi wr=>∃k:Nat,i=.int .i64 (k:Int)/\k<=n/\Hid (K7 ((l.map MtV.m).take k))/\S wr) (λi _=>n-(intOf i).toNat)
 case atStart=>exact⟨0,by simp,Nat.zero_le _,Lv (by rw[List.take_zero];trivial),a⟩
 case round=>
  clear a;obtain⟨k,rfl,ag,t,a⟩:=hrel;by_cases v:k<n;rotate_left
  ·have ac:¬((k:Int)<(n:Int)):=by omega
   obtain rfl:k=n:=by omega
   have q:Hid (YX (l.map MtV.m)=true):=by
    show _=_;rw[riseB_iff];have:=t.out;rwa[Lm (by rw[L7];have:=Hn.out;omega)]at this
   clear v t;go_wp2_with fail
   go_ret
   exact⟨QD q.out,T4.out _ a⟩
  have ah:(k:Int)<(n:Int):=by omega
  obtain⟨y,hy⟩:∃y,l[k]? =some y:=⟨_,Ld (by have:=Hn.out;omega)⟩;have Hy:=Lv hy;clear hy v;rcases Nj k with z|z
  ·subst z;have q:Hid (K7 ((l.map MtV.m).take (0+1))):=Aid _;have e0:¬((0:Int)<0):=by omega
   clear t;go_wp2_with fail
   refine QG S (by kernel_rfl) (by kernel_rfl) (St.drew a) ?_;clear a
   iterate 3 (refine Qe rfl ?_ (λW g=>?_) ?_;rotate_left;(focus(go_simp;exact rfl));simp only[Act.put,Qa,Qb,Qc])
   iterate 13 (refine Acn rfl ?_;simp only[Act.put,Qa,Qb,Qc])
   (refine Qe rfl ?_ (λW g=>?_) ?_;rotate_left;(focus(go_simp;exact rfl));simp only[Act.put,Qa,Qb,Qc]);refine QE λW a=>?_
   go_wp2_with fail
   refine⟨⟨0+1,by simp,by omega,q,a⟩,?_⟩;simp only[intOf];omega
  ·obtain⟨j,rfl⟩:∃j,k=j+1:=⟨k-1,by omega⟩;obtain⟨x,hx⟩:∃x,l[j]? =some x:=⟨_,Ld (by have:=Hn.out;omega)⟩;have Hx:=Lv hx;obtain⟨ad,ab,_⟩:=KM (T1.out _ a) hx;subst ab
   have Hc:Hid (∀W,S W->∀i u,x.cells[i]? =some u->W.cell? ((ad.add (j*8)).add i)=some u):=λW h=>by
    obtain⟨aa,s,e2⟩:=KM (T1.out W h) Hx.out;injection s with s;subst s;exact e2
   have Hd:Hid (∀W,S W->∀i u,y.cells[i]? =some u->W.cell? ((ad.add ((j+1)*8)).add i)=some u):=λW h=>by
    obtain⟨aa,s,e2⟩:=KM (T1.out W h) Hy.out;injection s with s;subst s;exact e2
   have e0:(0:Int)<((j+1:Nat):Int):=by omega
   have ej:IntKind.i64.wrap (((j+1:Nat):Int)-1)=(j:Int):=by rw[show((j+1:Nat):Int)-1=(j:Int) by omega];exact IntWalk.i64_in _ (by omega)
   have af:(j:Int)<(n:Int):=by omega
   have ae:(0:Int)<=(j:Int):=by omega
   clear hx z;go_wp2_with fail
   refine QG S (by kernel_rfl) (by kernel_rfl) (St.drew a) ?_;clear a
   iterate 5 (refine Qe rfl ?_ (λW g=>?_) ?_;rotate_left;(focus(go_simp;exact rfl));simp only[Act.put,Qa,Qb,Qc])
   (refine Qe rfl (.int .i64 (j:Int)) (λW g=>(by first| (go_simp;done)| (go_simp;exact IntWalk.i64_in _ (by omega)))) ?_;simp only[Act.put,Qa,Qb,Qc])
   iterate 2 (refine Qe rfl ?_ (λW g=>?_) ?_;rotate_left;(focus(go_simp;exact rfl));simp only[Act.put,Qa,Qb,Qc])
   (refine QW rfl 91 _ rfl (_) rfl x.dl.cells.toList _ (λW g=>AgL (Hc.out W g)) Tryz.underlying91 rfl (by kernel_rfl) ?_;simp only[Act.put,Qa,Qb,Qc])
   iterate 4 (refine Qe rfl ?_ (λW g=>?_) ?_;rotate_left;(focus(go_simp;exact rfl));simp only[Act.put,Qa,Qb,Qc])
   (refine QW rfl 91 _ rfl (_) rfl y.dl.cells.toList _ (λW g=>AgL (Hd.out W g)) Tryz.underlying91 rfl (by kernel_rfl) ?_;simp only[Act.put,Qa,Qb,Qc]);(refine QA rfl 128 _ (λW=>by(go_simp;try rfl)) (.int .i64 (Zw x.m.d y.m.d)) (λW g=>VT x.dl y.dl W (T2.out W g x (Li Hx.out)).dl (T2.out W g y (Li Hy.out)).dl) ?_;simp only[Act.put,Qa,Qb,Qc])
   iterate 2 (refine Qe rfl ?_ (λW g=>?_) ?_;rotate_left;(focus(go_simp;exact rfl));simp only[Act.put,Qa,Qb,Qc])
   refine QE λW a=>?_
   obtain⟨c,hc⟩:∃c,c=Zw x.m.d y.m.d:=⟨_,rfl⟩;rw[<-hc];have o:(l.map MtV.m)[j]? =some x.m:=by rw[LR,Hx.out];rfl
   have p:(l.map MtV.m)[j+1]? =some y.m:=by rw[LR,Hy.out];rfl
   by_cases z:0<=c
   ·have q:Hid (YX (l.map MtV.m)=false):=by
      show _=_
      have h1:¬YX (l.map MtV.m)=true:=λh=>by
       have:=Aic (riseB_iff.1 h) o p;omega
      simpa using h1
    clear t hc o p Hc Hd;go_wp2_with fail
    go_ret
    exact⟨QD q.out,T4.out _ a⟩
   ·have q:Hid (K7 ((l.map MtV.m).take (j+1+1))):=Yt o p t.out (by omega);clear t hc o p Hc Hd;go_wp2_with fail
    refine⟨⟨j+1+1,by simp,by omega,q,a⟩,?_⟩;simp only[intOf];omega
end Go.Proofs.YtgnmkiafeplbpaaGreatDoor
