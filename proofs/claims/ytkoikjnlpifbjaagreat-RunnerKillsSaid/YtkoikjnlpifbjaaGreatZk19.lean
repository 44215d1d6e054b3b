/- Lemmas for RunnerKillsP. -/
import Derived.Test.YtkoikjnlpifbjaaGreatZk1
import Derived.Test.YtkoikjnlpifbjaaGreatZk12
import Derived.Test.YtkoikjnlpifbjaaGreatZk8
import Derived.Test.YtkoikjnlpifbjaaGreatZk16
import Derived.Test.YtkoikjnlpifbjaaGreatZk18
import Derived.Test.YtkoikjnlpifbjaaGreatZk11
import Derived.OrdersHeld
set_option linter.unusedVariables false
set_option linter.unusedSimpArgs false
set_option maxRecDepth 100000
set_option maxHeartbeats 16000000
namespace Go.Proofs.YtkoikjnlpifbjaaGreat
open Go.RowKit Go.Deep
theorem AiW{params fuel:Int}{ts:List (List Int)}(h:ts.length<1\/20<ts.length):Z3 params ts fuel=18:=by unfold Z3;rw[if_pos h]
theorem AiX{params fuel:Int}{ts:List (List Int)}{l:List Int}(hl:l∈ts)(h:¬(l.length:Int)=params):Z3 params ts fuel=18:=by
 unfold Z3;split
 ·rfl
 ·rw[if_neg (λe=>h (e l hl))]
theorem AiY{params fuel:Int}{ts:List (List Int)}(h:¬(ts.length<1\/20<ts.length))(h2:∀l∈ts,(l.length:Int)=params):Z3 params ts fuel=if fuel<1\/10000<fuel then 19 else 0:=by unfold Z3;rw[if_neg h,if_pos h2]
def Km (b:Bool)(e:Int):Int:=if b then 0 else e
theorem JF (b:Bool)(n:Int)(w:World):Calls Tryz.prog 66 #[.bool b,.int .i64 n] w λe w'=>e=.returned (.int .i64 (Km b n))/\w=w':=by
 cases b
 all_goals
  go_enter Tryz.func66,Tryz.ntmps66
  go_wp2
  go_ret
  exact⟨rfl,rfl⟩
theorem Aj9 (P:Nat)(params:Int)(x:IntsV)(w:World)(hr:Row w P 3 #[.int .i64 params]):Calls Tryz.prog 63 #[x.val,.pointer (some ⟨P,0,none⟩)] w λe w'=>e=.returned (.bool ((x.l.length:Int) != params))/\Below w.heap.size w w':=by
 have c:=hr.cellv (i:=0) (v:=.int .i64 params) rfl;rw[show x.val=.slice x.addr x.l.length x.cap from rfl];go_enter Tryz.func63,Tryz.ntmps63
 go_wp2
 go_ret
 exact⟨rfl,Below.refl _ _⟩
theorem AgP (P:Nat)(A:Option Addr)(cap:Nat)(l:List IntsV)(p:IntsV->Bool)(w:World)(S:World->Prop)[stS:St S](hS:S w)(hrd:∀W,S W->Rd W A (Jo l))(hlo:∀W,S W->Below w.heap.size w W)
 (hp:∀x∈l,∀W,S W->Calls Tryz.prog 63 #[.slice x.addr x.l.length x.cap,.pointer (some ⟨P,0,none⟩)] W λe W'=>e=.returned (.bool (p x))/\Below W.heap.size W W') (hl:l.length<=1000000):
 Calls Tryz.prog 106 #[.slice A l.length cap,.func (.func 63) #[] #[.pointer (some ⟨P,0,none⟩)]] w λe w'=>e=.returned (.int .i64 (Adi p l))/\Below w.heap.size w w':=by
 have Hp:=Lh hp;have s:=Lh hrd;have m:=Lh hlo;have aa:(l.length:Int)<=1000000:=by omega
 clear hp hrd hlo hl;go_enter Tryz.func106,Tryz.ntmps106
 go_wp2
 go_loopw [8] (λi wr=>∃k:Nat,i=.int .i64 (k:Int)/\k<=l.length/\Hid (∀y∈l.take k,p y=false)/\S wr) (λi _=>l.length-(intOf i).toNat)
 case atStart=>exact⟨0,rfl,Nat.zero_le _,Lh (λx h=>by simp at h),hS⟩
 case round=>
  clear hS;obtain⟨k,rfl,hk,c,hS⟩:=hrel;by_cases g:k<l.length
  ·obtain⟨x,h⟩:∃x,l[k]? =some x:=⟨_,Lb g⟩;obtain⟨ad,t,o⟩:=Jt (s.out _ hS) h;have j:Hid (wr.cell? (ad.add k)=some (.slice x.addr x.l.length x.cap)):=o;have q:=Lh h;have d:=Lh (Hp.out x (Lf h) wr hS);have z:(k:Int)<(l.length:Int):=by omega
   clear h g o;subst t;(have u:=j.out);go_wp2_with fail;clear u;refine d.out.mono ?_;rintro e w' ⟨rfl,v⟩;replace hS:=stS.go hS v;clear v d j;cases hs:p x
   ·have n:=Lh (YK c.out q.out hs);clear hs q;go_wp2_with fail
    go_roundw
    case rel=>exact⟨k+1,by go_num,by omega,n,hS⟩
    case measure=>simp[intOf];omega
   ·have n:=Lh (Adk c.out q.out hs);clear hs q;go_wp2_with fail
    go_ret
    exact⟨by rw[n.out];rfl,m.out _ hS⟩
  ·obtain rfl:k=l.length:=by omega
   have n:=Lh (AfX (p:=p) (l:=l) (by have:=c.out;rwa[LT]at this));clear g hk;go_wp2
   go_ret
   exact⟨by rw[n.out];rfl,m.out _ hS⟩
theorem AeP (P:Nat)(A:Option Addr)(cap:Nat)(l:List IntsV)(p:IntsV->Bool)(w:World)(S:World->Prop)[stS:St S](hS:S w)(hrd:∀W,S W->Rd W A (Jo l))(hlo:∀W,S W->Below w.heap.size w W)
 (hp:∀x∈l,∀W,S W->Calls Tryz.prog 63 #[.slice x.addr x.l.length x.cap,.pointer (some ⟨P,0,none⟩)] W λe W'=>e=.returned (.bool (p x))/\Below W.heap.size W W') (hl:l.length<=1000000):
 Calls Tryz.prog 68 #[.slice A l.length cap,.func (.func 63) #[] #[.pointer (some ⟨P,0,none⟩)]] w λe w'=>e=.returned (.bool (l.any p))/\Below w.heap.size w w':=by
 have c:=Lh (AgP P A cap l p w S hS hrd hlo hp hl);clear hp hrd hlo hl hS;go_enter Tryz.func68,Tryz.ntmps68
 go_wp2_with fail
 refine c.out.mono ?_;rintro e w' ⟨rfl,g⟩;have d:=Lh (Adj p l);clear c;go_wp2_with fail
 go_ret
 exact⟨Kg d.out.symm,g⟩
theorem AiT (T:Nat)(A:Option Addr)(n cap:Nat)(w:World)(hr:Row w T 26 #[.slice A n cap]):
 Calls Tryz.prog 65 #[.pointer (some ⟨T,0,none⟩)] w λe w'=>e=.returned (.int .i64 (Km (decide (1<=n/\n<=20)) 18))/\Below w.heap.size w w':=by
 have c:=hr.cellv (i:=0) (v:=.slice A n cap) rfl;by_cases g:1<=n
 ·by_cases j:n<=20
  ·have h:(1:Int)<=(n:Int):=by omega
   have k:decide ((n:Int)<=20)=true:=by simp;omega
   have d:Hid (decide (1<=n/\n<=20)=true):=by show _=_;simp[g,j]
   clear g j;go_enter Tryz.func65,Tryz.ntmps65
   go_wp2_with fail
   refine(JF _ _ _).mono ?_;rintro e w' ⟨rfl,rfl⟩;go_wp2_with fail
   go_ret
   exact⟨by rw[d.out];rfl,Below.refl _ _⟩
  ·have h:(1:Int)<=(n:Int):=by omega
   have k:decide ((n:Int)<=20)=false:=by simp;omega
   have d:Hid (decide (1<=n/\n<=20)=false):=by show _=_;simp[j]
   clear g j;go_enter Tryz.func65,Tryz.ntmps65
   go_wp2_with fail
   refine(JF _ _ _).mono ?_;rintro e w' ⟨rfl,rfl⟩;go_wp2_with fail
   go_ret
   exact⟨by rw[d.out];rfl,Below.refl _ _⟩
 ·have h:(n:Int)<1:=by omega
  have d:Hid (decide (1<=n/\n<=20)=false):=by show _=_;simp[g]
  clear g;go_enter Tryz.func65,Tryz.ntmps65
  go_wp2_with fail
  refine(JF _ _ _).mono ?_;rintro e w' ⟨rfl,rfl⟩;go_wp2_with fail
  go_ret
  exact⟨by rw[d.out];rfl,Below.refl _ _⟩
theorem AiV (F:Nat)(fuel:Int)(w:World)(hr:Row w F 3 #[.int .i64 fuel]):
 Calls Tryz.prog 69 #[.pointer (some ⟨F,0,none⟩)] w λe w'=>e=.returned (.int .i64 (Km (decide (1<=fuel/\fuel<=10000)) 19))/\Below w.heap.size w w':=by
 have c:=hr.cellv (i:=0) (v:=.int .i64 fuel) rfl;by_cases h:1<=fuel
 ·by_cases g:fuel<=10000
  ·have j:decide (fuel<=10000)=true:=by simp;omega
   have d:Hid (decide (1<=fuel/\fuel<=10000)=true):=by show _=_;simp[h,g]
   clear g;go_enter Tryz.func69,Tryz.ntmps69
   go_wp2_with fail
   refine(JF _ _ _).mono ?_;rintro e w' ⟨rfl,rfl⟩;go_wp2_with fail
   go_ret
   exact⟨by rw[d.out];rfl,Below.refl _ _⟩
  ·have j:decide (fuel<=10000)=false:=by simp;omega
   have d:Hid (decide (1<=fuel/\fuel<=10000)=false):=by show _=_;simp[g]
   clear g;go_enter Tryz.func69,Tryz.ntmps69
   go_wp2_with fail
   refine(JF _ _ _).mono ?_;rintro e w' ⟨rfl,rfl⟩;go_wp2_with fail
   go_ret
   exact⟨by rw[d.out];rfl,Below.refl _ _⟩
 ·have k:fuel<1:=by omega
  have d:Hid (decide (1<=fuel/\fuel<=10000)=false):=by show _=_;simp[h]
  clear h;go_enter Tryz.func69,Tryz.ntmps69
  go_wp2_with fail
  refine(JF _ _ _).mono ?_;rintro e w' ⟨rfl,rfl⟩;go_wp2_with fail
  go_ret
  exact⟨by rw[d.out];rfl,Below.refl _ _⟩
theorem AiU (T O P:Nat)(A:Option Addr)(cap:Nat)(l:List IntsV)(params:Int)(w:World)(hr:Rd w A (Jo l))(hl:l.length<=1000000)(rT:Row w T 26 #[.slice A l.length cap])(rO:Row w O 128 #[.func (.func 63) #[] #[.pointer (some ⟨P,0,none⟩)]])(rP:Row w P 3 #[.int .i64 params]):
 Calls Tryz.prog 67 #[.pointer (some ⟨T,0,none⟩),.pointer (some ⟨O,0,none⟩)] w λe w'=>e=.returned (.int .i64 (Km (!l.any λx=>(x.l.length:Int) != params) 18))/\Below w.heap.size w w':=by
 have k:=rT.cellv (i:=0) (v:=.slice A l.length cap) rfl;have m:=rO.cellv (i:=0) (v:=.func (.func 63) #[] #[.pointer (some ⟨P,0,none⟩)]) rfl;have c:=Lh (AeP P A cap l (λx=>(x.l.length:Int) != params) w (λW=>(Rd W A (Jo l)/\Row W P 3 #[.int .i64 params])/\Below w.heap.size w W) ⟨⟨hr,rP⟩,Below.refl _ _⟩ (λW h=>h.1.1) (λW h=>h.2) (λx _ W h=>Aj9 P params x W h.1.2) hl);clear rT rO rP hr hl;go_enter Tryz.func67,Tryz.ntmps67
 go_wp2_with fail
 refine c.out.mono ?_;rintro e n ⟨rfl,j⟩;clear c k m;generalize d:(l.any λx=>(x.l.length:Int) != params)=b;have g:=Lh d;clear d;cases b
 all_goals
  go_wp2_with fail
  refine(JF _ _ _).mono ?_
  rintro e w' ⟨rfl,rfl⟩
  go_wp2_with fail
  go_ret
  exact⟨by rw[g.out];rfl,j⟩
theorem AgL (M T O F:Nat)(e1 e2 e3:Int)(w:World)(S S2:World->Prop)[stS:St S](hS:S w)(hs:∀W,S W->Row W M 103 #[.func (.func 65) #[] #[.pointer (some ⟨T,0,none⟩)],.func (.func 67) #[] #[.pointer (some ⟨T,0,none⟩),.pointer (some ⟨O,0,none⟩)],.func (.func 69) #[] #[.pointer (some ⟨F,0,none⟩)]]/\S2 W)(hlo:∀W,S W->Below w.heap.size w W)
 (h2:∀W,S2 W->Calls Tryz.prog 65 #[.pointer (some ⟨T,0,none⟩)] W λe W'=>e=.returned (.int .i64 e1)/\Below W.heap.size W W')
 (h3:∀W,S2 W->Calls Tryz.prog 67 #[.pointer (some ⟨T,0,none⟩),.pointer (some ⟨O,0,none⟩)] W λe W'=>e=.returned (.int .i64 e2)/\Below W.heap.size W W')
 (h4:∀W,S2 W->Calls Tryz.prog 69 #[.pointer (some ⟨F,0,none⟩)] W λe W'=>e=.returned (.int .i64 e3)/\Below W.heap.size W W'):
 Calls Tryz.prog 64 #[.slice (some ⟨M,0,none⟩) 3 3] w λe w'=>e=.returned (.int .i64 (orL [e1,e2,e3]))/\Below w.heap.size w w':=by
 have H2:=Lh h2;have H3:=Lh h3;have H4:=Lh h4;have t:=Lh hs;have m:=Lh hlo;clear h2 h3 h4 hs hlo;go_enter Tryz.func64,Tryz.ntmps64
 go_wp2
 go_loopw [8] (λi wr=>∃k:Nat,i=.int .i64 (k:Int)/\k<=3/\Hid (∀j:Nat,j<k->([e1,e2,e3]:List Int)[j]? =some 0)/\S wr) (λi _=>3-(intOf i).toNat)
 case atStart=>exact⟨0,rfl,Nat.zero_le _,Lh (λj y=>by omega),hS⟩
 case round=>
  clear hS;obtain⟨k,rfl,hk,n,hS⟩:=hrel;have z:k=0\/k=1\/k=2\/k=3:=by omega
  clear hk;rcases z with rfl|rfl|rfl|rfl
  ·skip;have c:=(t.out _ hS).1;have u:=c.cellv (i:=0) (v:=.func (.func 65) #[] #[.pointer (some ⟨T,0,none⟩)]) rfl;have o:=Lh (H2.out wr ((t.out _ hS).2));clear c;go_wp2_with fail
   refine o.out.mono ?_;rintro e w' ⟨rfl,p⟩;replace hS:=stS.go hS p;clear u o p;by_cases d:e1=0
   ·have h:(e1 != 0)=false:=by simp[d]
    have g:Hid (∀j:Nat,j<0+1->([e1,e2,e3]:List Int)[j]? =some 0):=λj y=>by
     by_cases l:j<0
     ·exact n.out j l
     ·obtain rfl:j=0:=by omega
      simp[d]
    clear d;go_wp2_with fail
    go_roundw
    case rel=>exact⟨0+1,by go_num,by omega,g,hS⟩
    case measure=>simp[intOf]
   ·have h:(e1 != 0)=true:=by simpa using d
    have s:Hid (orL [e1,e2,e3]=e1):=by
     show _=_;simp[orL,d]
    clear d;go_wp2_with fail
    go_ret
    exact⟨by rw[s.out];rfl,m.out _ hS⟩
  ·skip;have c:=(t.out _ hS).1;have u:=c.cellv (i:=1) (v:=.func (.func 67) #[] #[.pointer (some ⟨T,0,none⟩),.pointer (some ⟨O,0,none⟩)]) rfl;have o:=Lh (H3.out wr ((t.out _ hS).2));clear c;go_wp2_with fail
   refine o.out.mono ?_;rintro e w' ⟨rfl,p⟩;replace hS:=stS.go hS p;clear u o p;by_cases d:e2=0
   ·have h:(e2 != 0)=false:=by simp[d]
    have g:Hid (∀j:Nat,j<1+1->([e1,e2,e3]:List Int)[j]? =some 0):=λj y=>by
     by_cases l:j<1
     ·exact n.out j l
     ·obtain rfl:j=1:=by omega
      simp[d]
    clear d;go_wp2_with fail
    go_roundw
    case rel=>exact⟨1+1,by go_num,by omega,g,hS⟩
    case measure=>simp[intOf]
   ·have h:(e2 != 0)=true:=by simpa using d
    have s:Hid (orL [e1,e2,e3]=e2):=by
     show _=_;have q:=n.out 0 (by omega);simp at q;simp[orL,q,d]
    clear d;go_wp2_with fail
    go_ret
    exact⟨by rw[s.out];rfl,m.out _ hS⟩
  ·skip;have c:=(t.out _ hS).1;have u:=c.cellv (i:=2) (v:=.func (.func 69) #[] #[.pointer (some ⟨F,0,none⟩)]) rfl;have o:=Lh (H4.out wr ((t.out _ hS).2));clear c;go_wp2_with fail
   refine o.out.mono ?_;rintro e w' ⟨rfl,p⟩;replace hS:=stS.go hS p;clear u o p;by_cases d:e3=0
   ·have h:(e3 != 0)=false:=by simp[d]
    have g:Hid (∀j:Nat,j<2+1->([e1,e2,e3]:List Int)[j]? =some 0):=λj y=>by
     by_cases l:j<2
     ·exact n.out j l
     ·obtain rfl:j=2:=by omega
      simp[d]
    clear d;go_wp2_with fail
    go_roundw
    case rel=>exact⟨2+1,by go_num,by omega,g,hS⟩
    case measure=>simp[intOf]
   ·have h:(e3 != 0)=true:=by simpa using d
    have s:Hid (orL [e1,e2,e3]=e3):=by
     show _=_;have q:=n.out 0 (by omega);have x:=n.out 1 (by omega);simp at q x;simp[orL,q,x,d]
    clear d;go_wp2_with fail
    go_ret
    exact⟨by rw[s.out];rfl,m.out _ hS⟩
  ·have s:Hid (orL [e1,e2,e3]=0):=by
     show _=_;have q:=n.out 0 (by omega);have x:=n.out 1 (by omega);have h2:=n.out 2 (by omega);simp at q x h2;simp[orL,q,x,h2]
   go_wp2
   go_ret
   exact⟨by rw[s.out];rfl,m.out _ hS⟩
theorem Ahm (params fuel:Int)(l:List IntsV):orL [Km (decide (1<=l.length/\l.length<=20)) 18,Km (!l.any λx=>(x.l.length:Int) != params) 18,Km (decide (1<=fuel/\fuel<=10000)) 19]=Z3 params (l.map IntsV.l) fuel:=by
 unfold Km;by_cases g:(l.map IntsV.l).length<1\/20<(l.map IntsV.l).length
 ·rw[AiW g];rw[Lu]at g;have:¬(1<=l.length/\l.length<=20):=by omega
  simp[orL,this]
 ·by_cases j:∀t∈l.map IntsV.l,(t.length:Int)=params
  ·rw[AiY g j];rw[Lu]at g;have h:1<=l.length/\l.length<=20:=by omega
   have i:(l.any λx=>(x.l.length:Int) != params)=false:=by
    rw[List.any_eq_false];intro x d;have:=j x.l (Nb d);simp[this]
   by_cases m:1<=fuel/\fuel<=10000
   ·have e:(if fuel<1\/10000<fuel then(19:Int)else 0)=0:=if_neg (by omega);rw[e];simp[orL,h,i,m]
   ·have e:(if fuel<1\/10000<fuel then(19:Int)else 0)=19:=if_pos (by omega);rw[e];simp[orL,h,i,m]
  ·have k:∃x∈l,¬(x.l.length:Int)=params:=by
     refine Classical.byContradiction λn=>j λt o=>?_
     obtain⟨x,d,rfl⟩:=LK.1 o;exact Classical.byContradiction λc=>n ⟨x,d,c⟩
   obtain⟨x,d,c⟩:=k;rw[AiX (Nb d) c];rw[Lu]at g;have h:1<=l.length/\l.length<=20:=by omega
   have i:(l.any λx=>(x.l.length:Int) != params)=true:=by
    rw[List.any_eq_true];exact⟨x,d,by simpa using c⟩
   simp[orL,h,i]
theorem Aje (w:World):(zeroValue 128).run Tryz.prog w=.ok .nilFunc w:=by kernel_rfl
theorem AjR:(Tryz.prog.info? 103).map (λi=>(i.zero,i.size))=some (some .nilFunc,1):=by kernel_rfl
theorem AbH (params fuel:Int)(A:Option Addr)(cap:Nat)(l:List IntsV)(w:World)(hr:Rd w A (Jo l))(hl:l.length<=1000000):
 Calls Tryz.prog 25 #[.int .i64 params,.slice A l.length cap,.int .i64 fuel] w λe w'=>e=.returned (.int .i64 (Z3 params (l.map IntsV.l) fuel))/\Below w.heap.size w w':=by
 have Hr:=Lh hr;have Hl:=Lh hl;clear hr hl;go_enter Tryz.func25,Tryz.ntmps25
 go_wp2_with (refine Qq _ _ rfl ?_)
 refine Stop.to ?_;refine Qe rfl 3 _ rfl #[.int .i64 params] rfl ?_;intro P Pw Ph o Pb;go_wp2_with (refine Qq _ _ rfl ?_)
 refine Stop.to ?_;refine Qe rfl 26 _ rfl #[.slice A l.length cap] rfl ?_;intro T Tw v Tr p;go_wp2_with (refine Qq _ _ rfl ?_)
 refine Stop.to ?_;refine Qe rfl 3 _ rfl #[.int .i64 fuel] rfl ?_;intro F Fw s Fr n;have g:=(o.below p (Lg o.lt v)).below n (by have:=o.lt;have:=p.size;omega);have i:=Tr.below n (Lg Tr.lt s);have d:=Fr;have y:=(Below.refl w.heap.size w).trans (Pb.mono Ph);have b2:=y.trans ((p.mono v).mono y.size);have b3:=b2.trans ((n.mono s).mono b2.size);clear o Tr Fr Pb p n Ph v s y b2;go_wp2_with (refine QH _ rfl ?_)
 refine Stop.to ?_;refine Qj rfl 128 rfl _ _ (Aje _) rfl ?_;intro O Ow u Or Ob;go_wp2_with (refine Qs _ _ _ rfl ?_)
 refine Stop.to ?_;refine Qm rfl 128 _ _ rfl O 0 rfl (.func (.func 63) #[] #[.pointer (some ⟨P,0,none⟩)]) rfl [.func (.func 63) #[] #[.pointer (some ⟨P,0,none⟩)]] rfl 128 _ #[.func (.func 63) #[] #[.pointer (some ⟨P,0,none⟩)]] Or (by kernel_rfl) (by show 0+1<=1;omega) (by simp[Value.oneCell']) rfl ?_;intro Ox m Oo;have k:=(Ob.mono u).trans (Oo.below u);replace g:=g.below k g.lt;replace i:=i.below k i.lt;replace d:=d.below k d.lt;have b4:=b3.trans (k.mono b3.size);clear Or Ob u Oo k b3;go_wp2_with (refine ZJ _ _ _ rfl ?_)
 refine Stop.to ?_;refine QA rfl 174 3 _ rfl 103 #[.func (.func 65) #[] #[.pointer (some ⟨T,0,none⟩)],.func (.func 67) #[] #[.pointer (some ⟨T,0,none⟩),.pointer (some ⟨O,0,none⟩)],.func (.func 69) #[] #[.pointer (some ⟨F,0,none⟩)]] (Z8 Tryz.underlying174 AjR (by decide) (by decide) (by kernel_rfl)) ?_;intro M t Mh Mr Mb;have j:=Mb.mono Mh;replace g:=g.below j g.lt;replace i:=i.below j i.lt;replace d:=d.below j d.lt;replace m:=m.below j m.lt;have q:=b4.trans (j.mono b4.size)
 have c:=AgL M T O F (Km (decide (1<=l.length/\l.length<=20)) 18) (Km (!l.any λx=>(x.l.length:Int) != params) 18) (Km (decide (1<=fuel/\fuel<=10000)) 19) t
  (λW=>(Row W M 103 #[.func (.func 65) #[] #[.pointer (some ⟨T,0,none⟩)],.func (.func 67) #[] #[.pointer (some ⟨T,0,none⟩),.pointer (some ⟨O,0,none⟩)],.func (.func 69) #[] #[.pointer (some ⟨F,0,none⟩)]]/\(Rd W A (Jo l)/\Row W T 26 #[.slice A l.length cap]/\Row W O 128 #[.func (.func 63) #[] #[.pointer (some ⟨P,0,none⟩)]]/\Row W P 3 #[.int .i64 params]/\Row W F 3 #[.int .i64 fuel]))/\Below t.heap.size t W)
  (λW=>Rd W A (Jo l)/\Row W T 26 #[.slice A l.length cap]/\Row W O 128 #[.func (.func 63) #[] #[.pointer (some ⟨P,0,none⟩)]]/\Row W P 3 #[.int .i64 params]/\Row W F 3 #[.int .i64 fuel])
  ⟨⟨Mr,Hr.out.go q,i,m,g,d⟩,Below.refl _ _⟩ (λW h=>h.1) (λW h=>h.2)
  (λW h=>AiT T A l.length cap W h.2.1) (λW h=>AiU T O P A cap l params W h.1 Hl.out h.2.1 h.2.2.1 h.2.2.2.1) (λW h=>AiV F fuel W h.2.2.2.2)
 rw[Ahm]at c;have Hf:=Lh c;clear c g i d m Mr Mb j Mh b4;go_wp2_with fail
 refine Hf.out.mono ?_;rintro e w9 ⟨rfl,b9⟩;have z:=q.trans (b9.mono q.size);clear Hf b9 q;go_wp2_with fail
 go_ret
 exact⟨rfl,z⟩
theorem Ac5{l:List Mt}{k:Nat}{x:Mt}(hx:l[k]? =some x)(v:Int):ZM (l.take (k+1)) v=ZM (l.take k) v+if x.verdict=v then 1 else 0:=by
 unfold ZM;rw[L9,hx,N4];by_cases h:x.verdict=v<;>simp[h]
theorem Vb (l:List Mt)(k:Nat)(v:Int):0<=ZM (l.take k) v/\ZM (l.take k) v<=k:=by
 unfold ZM;have c:=Ns (λm:Mt=>m.verdict==v) (l.take k);have d:(l.take k).length<=k:=List.length_take_le _ _;omega
theorem Ak6 (a b c d:Value):ZS #[a,b,c] 0 [d]=#[d,b,c]:=rfl
theorem Ak7 (a b c d:Value):ZS #[a,b,c] 1 [d]=#[a,d,c]:=rfl
theorem Ak8 (a b c d:Value):ZS #[a,b,c] 2 [d]=#[a,b,d]:=rfl
theorem Ahi (A:Option Addr)(cap:Nat)(l:List MtV)(w:World)(hr:Rd w A (XJ l))(hl:l.length<=1000000):
 Calls Tryz.prog 32 #[.slice A l.length cap] w λe w'=>e=.returned (.agg (QF (l.map MtV.m)).cells)/\Below w.heap.size w w':=by
 have Hr:=Lh hr;have ai:(l.length:Int)<=1000000:=by omega
 clear hr hl;have zc:=Aeq;go_enter Tryz.func32,Tryz.ntmps32
 go_wp2_with (first|fail| (refine QH _ rfl ?_))
 refine Stop.to ?_;refine Qj rfl 36 rfl _ _ (AaI _) rfl ?_;intro R Rw Rh Rr Rb;go_wp2_with (first|fail| (refine QH _ rfl ?_))
 refine Stop.to ?_;refine Qj rfl 108 rfl _ _ (zc _) rfl ?_;intro C Cw Ch Cr Cb;have g:=Rr.below Cb (Lg Rr.lt Ch);have y:R≠C:=by have:=Rr.lt;omega
 have b1:=(Below.refl w.heap.size w).trans (Rb.mono Rh);have b2:=b1.trans ((Cb.mono Ch).mono b1.size);have hC:w.heap.size<=C:=Ld b1.size Ch;have hR:w.heap.size<=R:=Rh;clear Rr Rb Cb b1 zc Rh Ch;have d:=Cr;clear Cr;go_wp2_with fail
 go_loopw [8] (λi wr=>∃k:Nat,i=.int .i64 (k:Int)/\k<=l.length/\Row wr R 36 #[.int .i64 0,.int .i64 0,.int .i64 0]/\Row wr C 108 (QF ((l.map MtV.m).take k)).cells/\Below w.heap.size w wr) (λi _=>l.length-(intOf i).toNat)
 case atStart=>exact⟨0,rfl,Nat.zero_le _,g,d,b2⟩
 case round=>
  clear g d b2;obtain⟨k,rfl,hk,g,d,c⟩:=hrel;by_cases z:k<l.length
  ·obtain⟨x,hx⟩:∃x,l[k]? =some x:=⟨_,Lb z⟩;obtain⟨ad,ac,ab⟩:=AlE (Hr.out.go c) hx;have hs:=λv=>Ac5 (l:=l.map MtV.m) (k:=k) (x:=x.m) (by simp[hx]) v
   have h:=Lh (hs 0);have j:=Lh (hs 1);have n:=Lh (hs 2);have af:=Vb (l.map MtV.m) k 0;have ag:=Vb (l.map MtV.m) k 1;have ah:=Vb (l.map MtV.m) k 2;have ae:(k:Int)<(l.length:Int):=by omega
   have aa:=Lh ab;clear hx z ab hs;subst ac;go_wp2_with (first| (refine QT rfl 54 _ rfl (ad.add (k*8)) rfl x.cells _ (aa.out) Tryz.underlying54 rfl (by kernel_rfl) ?_)| (refine QH _ rfl ?_))
   refine Stop.to ?_;refine Qj rfl 54 rfl _ _ (Ajg _) rfl ?_;intro G Gw Gh Gr Gb;go_wp2_with (refine Qs _ _ _ rfl ?_)
   refine Stop.to ?_;refine Qk rfl 54 _ _ rfl G x.cells.toArray rfl rfl 54 _ Gr (by kernel_rfl) rfl (Afb _) ?_;intro Gx Gs Go;have Gc:=(Gb.mono Gh).trans (Go.below Gh);clear Gb Gr Go;replace g:=g.below Gc g.lt;replace d:=d.below Gc d.lt;replace c:=c.trans (Gc.mono c.size);have p:=Gs.cellv (i:=3) (v:=.int .i64 x.m.verdict) rfl;clear aa Gc Gh;rw[show(QF ((l.map MtV.m).take k)).cells=#[.int .i64 (ZM ((l.map MtV.m).take k) 0),.int .i64 (ZM ((l.map MtV.m).take k) 1),.int .i64 (ZM ((l.map MtV.m).take k) 2)]from rfl]at d;generalize ZM ((l.map MtV.m).take k) 0=n0 at*;generalize ZM ((l.map MtV.m).take k) 1=n1 at*;generalize ZM ((l.map MtV.m).take k) 2=n2 at*;by_cases h0:x.m.verdict=0
   ·have u:Hid ((QF ((l.map MtV.m).take (k+1))).cells=#[.int .i64 (n0+1),.int .i64 n1,.int .i64 n2]):=by
      show _=_;unfold QF Sc.cells;simp only[h.out,j.out,n.out,h0];simp
    have o:x.m.verdict=0:=h0;have c3:Gx.cell? ⟨G,3,none⟩=some (.int .i64 0):=by rw[<-o];exact p
    have c4:Gx.cell? ⟨C,0,none⟩=some (.int .i64 n0):=d.cellv (i:=0) rfl;clear h0 o p h j n Gs;go_wp2_with (refine Qs _ _ _ rfl ?_)
    refine Stop.to ?_;refine Qm rfl 3 _ _ rfl C 0 rfl (.int .i64 (n0+1)) (by first|rfl| (simp;done)) [.int .i64 (n0+1)] rfl 108 _ _ d (by kernel_rfl) (by simp) (by simp[Value.oneCell']) (Ak6 _ _ _ _) ?_
    intro W9 r9 q;have s:=c.trans (q.below hC);have t:=g.only q y;clear q d g c c3 c4;go_wp2_with fail
    go_roundw
    case rel=>exact⟨k+1,by go_num,by omega,t,by rw[u.out];exact r9,s⟩
    case measure=>simp[intOf];omega
   by_cases h1:x.m.verdict=1
   ·have u:Hid ((QF ((l.map MtV.m).take (k+1))).cells=#[.int .i64 n0,.int .i64 (n1+1),.int .i64 n2]):=by
      show _=_;unfold QF Sc.cells;simp only[h.out,j.out,n.out,h1];simp
    have o:x.m.verdict=1:=h1;have c3:Gx.cell? ⟨G,3,none⟩=some (.int .i64 1):=by rw[<-o];exact p
    have c4:Gx.cell? ⟨C,1,none⟩=some (.int .i64 n1):=d.cellv (i:=1) rfl;clear h1 o p h j n Gs;go_wp2_with (refine Qs _ _ _ rfl ?_)
    refine Stop.to ?_;refine Qm rfl 3 _ _ rfl C 1 rfl (.int .i64 (n1+1)) (by first|rfl| (simp;done)) [.int .i64 (n1+1)] rfl 108 _ _ d (by kernel_rfl) (by simp) (by simp[Value.oneCell']) (Ak7 _ _ _ _) ?_
    intro W9 r9 q;have s:=c.trans (q.below hC);have t:=g.only q y;clear q d g c c3 c4;go_wp2_with fail
    go_roundw
    case rel=>exact⟨k+1,by go_num,by omega,t,by rw[u.out];exact r9,s⟩
    case measure=>simp[intOf];omega
   by_cases h2:x.m.verdict=2
   ·have u:Hid ((QF ((l.map MtV.m).take (k+1))).cells=#[.int .i64 n0,.int .i64 n1,.int .i64 (n2+1)]):=by
      show _=_;unfold QF Sc.cells;simp only[h.out,j.out,n.out,h2];simp
    have o:x.m.verdict=2:=h2;have c3:Gx.cell? ⟨G,3,none⟩=some (.int .i64 2):=by rw[<-o];exact p
    have c4:Gx.cell? ⟨C,2,none⟩=some (.int .i64 n2):=d.cellv (i:=2) rfl;clear h2 o p h j n Gs;go_wp2_with (refine Qs _ _ _ rfl ?_)
    refine Stop.to ?_;refine Qm rfl 3 _ _ rfl C 2 rfl (.int .i64 (n2+1)) (by first|rfl| (simp;done)) [.int .i64 (n2+1)] rfl 108 _ _ d (by kernel_rfl) (by simp) (by simp[Value.oneCell']) (Ak8 _ _ _ _) ?_
    intro W9 r9 q;have s:=c.trans (q.below hC);have t:=g.only q y;clear q d g c c3 c4;go_wp2_with fail
    go_roundw
    case rel=>exact⟨k+1,by go_num,by omega,t,by rw[u.out];exact r9,s⟩
    case measure=>simp[intOf];omega
   have u:Hid ((QF ((l.map MtV.m).take (k+1))).cells=#[.int .i64 n0,.int .i64 n1,.int .i64 n2]):=by
    show _=_;unfold QF Sc.cells;simp only[h.out,j.out,n.out,if_neg h0,if_neg h1,if_neg h2];simp
   clear h j n Gs;by_cases h3:x.m.verdict<0
   ·clear h0 h1 h2;go_wp2_with fail
    go_roundw
    case rel=>exact⟨k+1,by go_num,by omega,g,by rw[u.out];exact d,c⟩
    case measure=>simp[intOf];omega
   ·have h4:0<=x.m.verdict:=by omega
    have h5:3<=x.m.verdict:=by omega
    clear h0 h1 h2 h3;go_wp2_with fail
    go_roundw
    case rel=>exact⟨k+1,by go_num,by omega,g,by rw[u.out];exact d,c⟩
    case measure=>simp[intOf];omega
  ·obtain rfl:k=l.length:=by omega
   rw[show(l.map MtV.m).take l.length=l.map MtV.m from L7 (by simp)]at d;have Hb:=Lh (Afv (QF (l.map MtV.m)) wr);clear hk z;go_wp2_with (refine wpList_load_row rfl 108 _ rfl C rfl 108 (QF (l.map MtV.m)).cells (0,0) _ d Tryz.underlying108 rfl (by kernel_rfl) ?_)
   refine Hb.out.mono ?_;rintro e w1 ⟨rfl,b3⟩;replace g:=g.below b3 g.lt;replace c:=c.trans (b3.mono c.size);clear b3 Hb d;go_wp2_with (refine Qs _ _ _ rfl ?_)
   refine Stop.to ?_;refine Qk rfl 36 _ _ rfl R (QF (l.map MtV.m)).cells rfl rfl 36 _ g (by kernel_rfl) rfl (by simp[Value.oneCell',Sc.cells]) ?_;intro W9 r9 q;go_wp2_with fail
   refine bodyPost_ret (results_cell_row Tryz.results32 _ _ R 36 _ (0,0) _ rfl r9 Tryz.underlying36 rfl (by kernel_rfl)) rfl ?_;exact⟨rfl,c.trans (q.below hR)⟩
instance St.dlt_all{l:List DlV}:St (λW=>∀x∈l,DlT W x):=⟨λh b x hx=>(h x hx).go b⟩
def Ak5 (n:Nat)(x:Mt):Bool:= !Xo x || decide ((n:Int)<=x.test)
end Go.Proofs.YtkoikjnlpifbjaaGreat
namespace Go.Proofs.YtkoikjnlpifbjaaGreat
open Go.RowKit
section
variable {P:Program} {ops:Array Oper} {Q:Exit->Act->World->Prop} {md:Region.Mode} {S:World->Prop} {last:Nat}
def YieldsC (P:Program)(ops:Array Oper)(S:World->Prop)(o:Oper)(v:Value)(a:Act):Prop:=
 (Region.wanted o (yielded ops a.tmps)=true/\∀w,S w->(execOp a.eval o).run P w=.ok (.value v) w\/∃f args,(execOp a.eval o).run P w=.ok (.enter f args) w/\Calls P f args w λe w'=>e=.returned v/\w'=w)\/
 (Region.wanted o (yielded ops a.tmps)=false/\v=undef)
theorem Qt{o:Oper}{v:Value}{a:Act}(h:YieldsIf P ops S o v a):YieldsC P ops S o v a:=h.imp (λ⟨hw,hv⟩=>⟨hw,λw hS=>.inl (hv w hS)⟩) id
theorem YieldsC.wpOp{i:Nat}{o:Oper}{v:Value}{a:Act}(hi:ops[i]? =some o)(hy:YieldsC P ops S o v a){K:Act->World->Prop}{w:World}(hS:S w)(h:K (a.put o.dst v) w):wpOp P ops Q i K a w:=by
 unfold Go.wpOp;simp only[hi];rcases hy with⟨d,c⟩|⟨d,rfl⟩
 ·rw[if_pos d];refine .inl ?_;unfold Oper.wp;rcases c w hS with c|⟨f,g,c,j⟩
  ·rw[c];exact h
  ·rw[c];refine Calls.mono j λe l k=>?_
   obtain⟨rfl,rfl⟩:=k;exact h
 ·rw[if_neg (by rw[d];simp)];exact h
theorem YieldsC.of_same{o:Oper}{v:Value}{a a':Act}(hy:YieldsC P ops S o v a)(he:execOp a'.eval o=execOp a.eval o)(hw:Region.wanted o (yielded ops a'.tmps)=Region.wanted o (yielded ops a.tmps)):YieldsC P ops S o v a':=by
 unfold YieldsC at*;rw[he,hw];exact hy
theorem Ahs{j:Nat}{oi oj:Oper}{v:Value}(hj:ops[j]? =some oj)(hap:oi.apart ops oj=true)
 (hsi:∀cs b,oi.op≠.select cs b) (hsj:∀cs b,oj.op≠.select cs b)
 (hQ:∀c a w,Q (.panic c) (a.put oi.dst v) w->Q (.panic c) a w) {K:Act->World->Prop} {a:Act} {w:World}
 (hy:YieldsC P ops S oi v a) (h:wpOp P ops Q j K (a.put oi.dst v) w):
 wpOp P ops Q j (λa' w'=>YieldsC P ops S oi v a'/\K (a'.put oi.dst v) w') a w:=by
 obtain⟨o,l,s⟩:=Oper.apart_spec hap
 have keep:∀(a:Act),YieldsC P ops S oi v a->∀u,YieldsC P ops S oi v (a.put oj.dst u):=λa hy u=>
  hy.of_same (execOp_put oi hsi a oj.dst u s) (wanted_put oi a oj.dst u s)
 have k:∀d,YieldsC P ops S oi v { a with defers:=d::a.defers }:=λd=>hy.of_same rfl rfl
 unfold wpOp at*;simp only[hj]at*;rw[wanted_put oj a oi.dst v o]at h;split
 ·rename_i p;simp only[p,if_true]at h;rcases h with h|⟨g,i⟩
  case inr=>exact .inr ⟨by unfold Oper.asks at*;rw[execOp_put oj hsj a oi.dst v o]at g;exact g,i⟩
  refine .inl ?_;unfold Oper.wp at*;rw[execOp_put oj hsj a oi.dst v o]at h;generalize (execOp a.eval oj).run P w=r at*;cases r with
  |ok n w'=>
   cases n<;>simp only[Oper.upon]at h|-
   case value u=>exact⟨keep a hy u,by rw[<-Act.put_comm a v u l];exact h⟩
   case skip=>exact⟨keep a hy _,by rw[<-Act.put_comm a v undef l];exact h⟩
   case defer d=>
    refine⟨keep _ (k d) _,?_⟩;rw[<-Act.put_comm _ v undef l, <-Act.put_defers];exact h
   case enter f args=>
    refine Calls.mono h λe q m=>?_
    cases e with
    |returned u=>exact⟨keep a hy u,by rw[<-Act.put_comm a v u l];exact m⟩
    |panicked c=>exact hQ _ _ _ m
    |outgrown=>exact m
   case row row args=>exact Rows.mono h λu q m=>⟨keep a hy u,by rw[<-Act.put_comm a v u l];exact m⟩
  |halt x w'=>
   cases x<;>simp only[Oper.upon]at h|-
   case panic u=>exact hQ _ _ _ h
 ·rename_i p;simp only[p]at h;exact⟨keep a hy _,by rw[<-Act.put_comm a v undef l];exact h⟩
def XM (P:Program)(md:Region.Mode)(ops:Array Oper)(Q:Exit->Act->World->Prop)(S:World->Prop)(last:Nat):Nat->Array Bool->Act->World->Prop
 |0,listed,a,w=>Region.ready md ops listed=[]/\Q .normal a w
 |fuel+1,listed,a,w=>
  (Region.ready md ops listed=[]->Q .normal a w)/\
  ∀i∈Region.ready md ops listed,wpOp P ops Q i (λa' w'=>(i≠last->S w')/\XM P md ops Q S last fuel (listed.setIfInBounds i true) a' w') a w
theorem AaG:∀(fuel:Nat) (listed:Array Bool) (a:Act) (w:World),XM P md ops Q S last fuel listed a w->wpAny P md ops Q fuel listed a w
 |0,_,_,_,h=>h
 |fuel+1,_,_,_,h=>⟨h.1,λi hi=>wpOp_mono (λa' w' h'=>AaG fuel _ a' w' h'.2) (h.2 i hi)⟩
theorem AcC{i:Nat}{oi:Oper}{v:Value}(hi:ops[i]? =some oi)(hsel:∀(j:Nat) (o:Oper) cs b,ops[j]? =some o->o.op≠.select cs b)
 (hil:i≠last) (hdep:∀o,ops[last]? =some o->∃e∈o.after,Region.binds md e=true/\e.on=i)
 (hQ:∀c a w,Q (.panic c) (a.put oi.dst v) w->Q (.panic c) a w):
 ∀(fuel:Nat) (listed:Array Bool) (a:Act) (w:World),
  (∀j oj,ops[j]? =some oj->j≠i->listed.getD j true=false->(∀e∈oj.after,Region.binds md e=true->e.on≠i)->oi.apart ops oj=true)->
  i∈Region.ready md ops listed->YieldsC P ops S oi v a->S w->
  XM P md ops Q S last fuel (listed.setIfInBounds i true) (a.put oi.dst v) w->XM P md ops Q S last (fuel+1) listed a w:=by
 intro fuel
 induction fuel with
 |zero=>
  intro listed a w _ t hy u H;refine⟨λh=>(by rw[h]at t;cases t),λj hj=>?_⟩;by_cases d:j=i
  ·subst d;exact hy.wpOp hi u ⟨λ_=>u,H⟩
  ·have:=ready_mono hj d;rw[H.1]at this;cases this
 |succ fuel ih=>
  intro listed a w g t hy u H;refine⟨λh=>(by rw[h]at t;cases t),λj hj=>?_⟩;by_cases d:j=i
  ·subst d;exact hy.wpOp hi u ⟨λ_=>u,H⟩
  ·have q:=H.2 j (ready_mono hj d);obtain⟨n,oj,m,x⟩:=mem_ready.1 hj
   have p:∀e∈oj.after,Region.binds md e=true->e.on≠i:=λe he hb s=>by
    have q:=x e he hb;have h0:=(mem_ready.1 t).1;rw[s]at q;rcases Nat.lt_or_ge i listed.size with h'|h'
    ·simp[h']at h0 q;rw[h0]at q;cases q
    ·simp[Nz h']at q
   have z:j≠last:=λe=>by
    subst e;obtain⟨e,he,hb,s⟩:=hdep oj m;exact p e he hb s
   have h2:=Ahs m (g j oj m d n p) (λcs b=>hsel i oi cs b hi) (λcs b=>hsel j oj cs b m) hQ hy q
   have l:∀k ok,ops[k]? =some ok->k≠i->(listed.setIfInBounds j true).getD k true=false->
    (∀e∈ok.after,Region.binds md e=true->e.on≠i)->oi.apart ops ok=true:=λk ok hk ab aa ac=>by
    refine g k ok hk ab ?_ ac;by_cases y:j=k
    ·subst y;exact n
    ·rw[getD_set_ne true y]at aa;exact aa
   refine wpOp_mono (λa' w' h3=>⟨λ_=>h3.2.1 z,ih (listed.setIfInBounds j true) a' w' l (ready_mono t (Ne.symm d)) h3.1 (h3.2.1 z) ?_⟩) h2;rw[NG _ _ d];exact h3.2.2
theorem Qy{rs:List Nat}{fuel:Nat}{listed:Array Bool}{a:Act}{w:World}(hr:Region.ready md ops listed=rs)(hne:rs≠[])
 (h:∀i∈rs,wpOp P ops Q i (λa' w'=>(i≠last->S w')/\XM P md ops Q S last fuel (listed.setIfInBounds i true) a' w') a w):XM P md ops Q S last (fuel+1) listed a w:=
 ⟨λh0=>absurd (hr▸h0) hne,hr▸h⟩
theorem Ka{listed:Array Bool}{a:Act}{w:World}(hr:Region.ready md ops listed=[])(h:Q .normal a w):∀fuel,XM P md ops Q S last fuel listed a w
 |0=>⟨hr,h⟩
 |_+1=>⟨λ_=>h,by rw[hr];simp⟩
end
def Ae0 (md:Region.Mode)(ops:Array Oper)(last i:Nat):Bool:=match ops[last]? with|some o=>o.after.any (λe=>Region.binds md e && e.on==i) && (i != last)|none=>false
theorem Zf{P:Program}{md:Region.Mode}{l:List Oper}{Q:Exit->Act->World->Prop}{S:World->Prop}{last i:Nat}{oi:Oper}{rest:List Oper}{v:Value}{fuel:Nat}{listed:Array Bool}{a:Act}{w:World}(ho:l.drop i=oi::rest)
 (hs:Region.noSelect l.toArray=true) (hf:Region.free md l.toArray listed i=true) (hr:(Region.ready md l.toArray listed).contains i=true) (hd:Ae0 md l.toArray last i=true)
 (hQ:∀c a w,Q (.panic c) (a.put oi.dst v) w->Q (.panic c) a w) (hy:YieldsC P l.toArray S oi v a) (hS:S w)
 (h:XM P md l.toArray Q S last fuel (listed.setIfInBounds i true) (a.put oi.dst v) w):XM P md l.toArray Q S last (fuel+1) listed a w:=by
 have g:i≠last:=λe=>by
  subst e;unfold Ae0 at hd;split at hd
  ·simp at hd
  ·cases hd
 refine AcC (VW ho) (Region.noSelect_spec hs) g (λo j=>?_) hQ fuel listed a w (Region.free_spec (VW ho) hf) (by simpa using hr) hy hS h;unfold Ae0 at hd;rw[j]at hd;simp only[LX]at hd;obtain⟨n,k,d⟩:=Array.any_eq_true.1 hd.1;simp only[LX,beq_iff_eq]at d;exact⟨_,Array.getElem_mem k,d.1,d.2⟩
theorem J8{P:Program}{last id:Nat}{Q:Exit->Act->World->Prop}{a:Act}{w:World}{l:List Oper}{S:World->Prop}(hm:P.follows .mixedOrders=true)(h:XM P .any l.toArray Q S last l.toArray.size (Array.replicate l.toArray.size false) a w.drew):(Code.region id l.toArray true).wp P Q a w:=
 wp_region_any hm (AaG _ _ _ _ h)
end Go.Proofs.YtkoikjnlpifbjaaGreat
namespace Go.Proofs.YtkoikjnlpifbjaaGreat
open Go.RowKit Go.Deep
attribute [local go_sem] Oper.semAt_some
theorem MtOk.kx{X:Nat->Prop}{W W':World}{x:MtV}(h:MtOk W x)(k:KpX X W W')(s:Qi x.m.d.path≠[]->∀ad,x.A=some ad->¬X ad.block):MtOk W' x:=⟨k.rd h.rd s,h.len,h.nil,h.dig⟩
end Go.Proofs.YtkoikjnlpifbjaaGreat
namespace Go.Proofs.YtkoikjnlpifbjaaGreat
open Go.RowKit Go.Deep
attribute [local go_sem] Oper.semAt_some
theorem K6 (w:World):(zeroValue 38).run Tryz.prog w=.ok (.agg #[.int .i64 0,.slice none 0 0,.slice none 0 0,.slice none 0 0,.int .i64 0,.slice none 0 0,.int .i64 0,.int .i64 0,.int .i64 0]) w:=by kernel_rfl
end Go.Proofs.YtkoikjnlpifbjaaGreat
namespace Go.Proofs.YtkoikjnlpifbjaaGreat
open Go.RowKit Go.Deep
def cp0:CpV:=⟨⟨0,none,0,[],none,0,[]⟩,none,0,[],0,none,0,[],⟨0,0,0⟩⟩
structure Cd where
 params:Int
 V:List Int
 body:List Nd
 tests:List (List Int)
 fuel:Int
 muts:List Mt
 sc:Sc
def CpV.data (c:CpV):Cd:=⟨c.p.params,c.p.V,c.p.body,c.testsL,c.fuel,c.muts,c.sc⟩
end Go.Proofs.YtkoikjnlpifbjaaGreat
