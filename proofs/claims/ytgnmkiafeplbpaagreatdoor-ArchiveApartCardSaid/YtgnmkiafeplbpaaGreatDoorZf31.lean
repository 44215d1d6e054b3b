/- Lemmas for ArAll. -/
import Derived.Test.YtgnmkiafeplbpaaGreatDoorZf1
import Derived.Test.YtgnmkiafeplbpaaGreatDoorZf18
import Derived.Test.YtgnmkiafeplbpaaGreatDoorZf29
import Derived.Test.YtgnmkiafeplbpaaGreatDoorZf23
import Derived.Test.YtgnmkiafeplbpaaGreatDoorZf26
set_option linter.unusedVariables false
set_option linter.unusedSimpArgs false
set_option maxRecDepth 100000
set_option maxHeartbeats 16000000
namespace Go.Proofs.YtgnmkiafeplbpaaGreatDoor
open Go.RowKit Go.Deep
theorem Ak9 (f g o:Nat)(T:TypeId)(cs:Array Value)(R:Array Value->World->Prop)(w:World)(hr:Row w g T cs)(h0:cs[o]? =some (.int .u32 0))(h1:cs[o+1]? =some (.int .i32 0))
 (hf:∀a w,(callFunc f a).run Tryz.prog w=.ok (.enter f a) w)
 (hF:Calls Tryz.prog f #[.pointer (some ⟨g,0,none⟩)] (w.setCell ⟨g,o+1,none⟩ (.int .i32 1)) λe w1=>e=.returned (.tuple #[])/\∃ds,Row w1 g T ds/\ds[o]? =some (.int .u32 0)/\ds[o+1]? =some (.int .i32 1)/\R ds w1):
 Calls Tryz.prog 236 #[.pointer (some ⟨g,o,none⟩),.func (.func f) #[.pointer (some ⟨g,0,none⟩)] #[]] w λe w'=>
  e=.returned (.tuple #[])/\∃ds w1,Row w1 g T ds/\R ds w1/\w'=(w1.drew.setCell ⟨g,o,none⟩ (.int .u32 1)).setCell ⟨g,o+1,none⟩ (.int .i32 0):=by
 have b:=Lv (Acv ⟨g,o+1,none⟩ w (hr.cellv h1) (hr.free (o+1)));have j:Row (w.setCell ⟨g,o+1,none⟩ (.int .i32 1)) g T (cs.setIfInBounds (o+1) (.int .i32 1)):=hr.set (o+1) _;have d:(cs.setIfInBounds (o+1) (.int .i32 1))[o]? =some (.int .u32 0):=by rw[Nv (by omega)];exact h0
 generalize w.setCell ⟨g,o+1,none⟩ (.int .i32 1)=w1 at b j hF;have l:=Lv hF;have c:=Lv (XO ⟨g,o,none⟩ 0 w1 (j.cellv d));have m:∀(x:Bool) (w:World),(Op.unary .not (.bool x)).run Tryz.prog w=.ok (.bool (!x)) w:=λ_ _=>rfl
 clear hr hF h0 h1 j d;go_enter_defers Tryz.func236,Tryz.ntmps236
 go_wp2_with fail
 refine b.out.mono ?_;rintro e w' ⟨rfl,rfl⟩;clear b;go_wp2_with fail
 refine c.out.mono ?_;rintro e w' ⟨rfl,rfl⟩;clear c;go_wp2_with fail
 refine l.out.mono ?_;rintro e k ⟨rfl,ds,h,p,q,s⟩;clear l hf;go_wp2_with fail
 refine leaves_cons (f:=256) (args:=#[.pointer (some ⟨g,o,none⟩),.bool true]) (by simp) (by simp[go_sem]) ?_;refine(YZ ⟨g,o,none⟩ (.int .u32 0) .returning _ (h.cellv p) (h.free o)).mono ?_;rintro e t u ⟨rfl,rfl,rfl⟩;have n:Row (k.drew.setCell ⟨g,o,none⟩ (.int .u32 1)) g T (ds.setIfInBounds o (.int .u32 1)):=Row.set (w:=k.drew) (cs:=ds) h o (.int .u32 1);have i:(ds.setIfInBounds o (.int .u32 1))[o+1]? =some (.int .i32 1):=by rw[Nv (by omega)];exact q
 refine leaves_cons (f:=255) (args:=#[.pointer (some ⟨g,o+1,none⟩)]) (by simp[settle]) (by simp[go_sem]) ?_;refine(Yu ⟨g,o+1,none⟩ _ _ (n.cellv i) (n.free (o+1))).mono ?_;rintro e t v ⟨rfl,rfl,rfl⟩;simp only[Leaves,settle];refine⟨_,results_none rfl _ _ _,rfl,ds,k,h,s,rfl⟩
theorem Ak8 (f g o:Nat)(T:TypeId)(cs:Array Value)(R:Array Value->World->Prop)(w:World)(hr:Row w g T cs)(h0:cs[o]? =some (.int .u32 0))(h1:cs[o+1]? =some (.int .i32 0))
 (hf:∀a w,(callFunc f a).run Tryz.prog w=.ok (.enter f a) w)
 (hF:Calls Tryz.prog f #[.pointer (some ⟨g,0,none⟩)] (w.setCell ⟨g,o+1,none⟩ (.int .i32 1)) λe w1=>e=.returned (.tuple #[])/\∃ds,Row w1 g T ds/\ds[o]? =some (.int .u32 0)/\ds[o+1]? =some (.int .i32 1)/\R ds w1):
 Calls Tryz.prog 191 #[.pointer (some ⟨g,o,none⟩),.func (.func f) #[.pointer (some ⟨g,0,none⟩)] #[]] w λe w'=>
  e=.returned (.tuple #[])/\∃ds w1,Row w1 g T ds/\R ds w1/\w'=(w1.drew.setCell ⟨g,o,none⟩ (.int .u32 1)).setCell ⟨g,o+1,none⟩ (.int .i32 0):=by
 have b:=Lv (XO ⟨g,o,none⟩ 0 w (hr.cellv h0));have c:=Lv (Ak9 f g o T cs R w hr h0 h1 hf hF);have d:∀(x:Bool) (w:World),(Op.unary .not (.bool x)).run Tryz.prog w=.ok (.bool (!x)) w:=λ_ _=>rfl
 clear hr hF h0 h1 hf;go_enter Tryz.func191,Tryz.ntmps191
 go_wp2_with fail
 refine b.out.mono ?_;rintro e w' ⟨rfl,rfl⟩;clear b;go_wp2_with fail
 refine c.out.mono ?_;rintro e i ⟨rfl,h⟩;clear c;go_wp2_with fail
 go_end0
 exact⟨rfl,h⟩
theorem Ahz (v:Value)(g o:Nat)(w:World)(h1:w.cell? ⟨g,o,none⟩=some (.int .u32 1)):
 Calls Tryz.prog 191 #[.pointer (some ⟨g,o,none⟩),v] w λe w'=>e=.returned (.tuple #[])/\w'=w:=by
 have a:=Lv (XO ⟨g,o,none⟩ 1 w h1);have b:∀(x:Bool) (w:World),(Op.unary .not (.bool x)).run Tryz.prog w=.ok (.bool (!x)) w:=λ_ _=>rfl
 clear h1;go_enter Tryz.func191,Tryz.ntmps191
 go_wp2_with fail
 refine a.out.mono ?_;rintro e w' ⟨rfl,rfl⟩;clear a;go_wp2_with fail
 go_end0
 exact⟨rfl,rfl⟩
def crB (c:BitVec 32):BitVec 32:=(c >>> 1) ^^^ (3988292384#32 &&& -(c &&& 1#32))
theorem Ahk (c:BitVec 32):c &&& 1#32=if c.toNat % 2=1 then 1#32 else 0#32:=by
 apply BitVec.eq_of_toNat_eq;rw[BitVec.toNat_and,show(1#32).toNat=1 from rfl,Nat.and_one_is_mod];split
 ·rename_i h;rw[h];rfl
 ·have:c.toNat % 2=0:=by omega
  rw[this];rfl
theorem AkY (c:BitVec 32):(crB c).toNat=crS c.toNat:=by
 unfold crB crS;rw[Ahk,BitVec.toNat_xor,BitVec.toNat_ushiftRight,N8];split
 ·rw[show(3988292384#32 &&& -(1#32)).toNat=3988292384 from by decide]
 ·rw[show(3988292384#32 &&& -(0#32)).toNat=0 from by decide,Nat.xor_zero]
def UU (c:BitVec 32):Nat->BitVec 32
 |0=>c
 |k+1=>crB (UU c k)
theorem Ad1 (c:BitVec 32):∀k,(UU c k).toNat=crI c.toNat k
 |0=>rfl
 |k+1=>by rw[UU,AkY,Ad1 c k,crI]
def stepsT:List (BitVec 32):=(List.range 256).map λi=>UU (BitVec.ofNat 32 i) 8
def tbC (dn st:Int)(l:List (BitVec 32)):Array Value:=(.int .u32 dn::.int .i32 st::.int .u32 0::wds l).toArray
def X0 (k:Nat):List (BitVec 32):=(List.range k).map (λi=>UU (BitVec.ofNat 32 i) 8)++List.replicate (256-k) 0
theorem Ah9 (cur:Array Value)(k:Nat)(u:Value)(hk:k<cur.size):Adn cur k [u]=cur.setIfInBounds k u:=by
 unfold Adn;apply Array.toList_inj.1;simp only[Nb,Array.toList_setIfInBounds];rw[List.set_eq_take_append_cons_drop,if_pos (by simpa using hk)];simp
theorem Ah8{k:Nat}(h:k<256):(X0 k).set k (UU (BitVec.ofNat 32 k) 8)=X0 (k+1):=by
 unfold X0;have a:((List.range k).map λi=>UU (BitVec.ofNat 32 i) 8).length=k:=by simp
 rw[List.set_append,if_neg (by omega),a,Nat.sub_self,show 256-k=(256-(k+1))+1 from by omega,List.replicate_succ,List.set_cons_zero,List.range_succ,LW,L4];rfl
theorem Af8:X0 256=stepsT:=by unfold X0 stepsT;simp
theorem Amx (dn st:Int)(l:List (BitVec 32))(k:Nat)(c:BitVec 32):(tbC dn st l).setIfInBounds (3+k) (.int .u32 (wd c))=tbC dn st (l.set k c):=by
 unfold tbC wds;rw[N6,List.setIfInBounds_toArray,NF,NF,NF,List.map_set]
theorem Am4{dn st:Int}{l:List (BitVec 32)}{k:Nat}(h:k<l.length):(tbC dn st l)[3+k]? =some (.int .u32 (wd (l.getD k 0))):=by
 have:=AmA l k h;unfold tbC;simpa[N6]using this
theorem Ag7 (dn st:Int)(l:List (BitVec 32)):(tbC dn st l).size=l.length+3:=by unfold tbC;simp[wds]
theorem AkZ (c:BitVec 32):bits .xor .u32 (wd c / 2) (bits .and .u32 3988292384 (-bits .and .u32 (wd c) 1 % 4294967296))=wd (crB c):=by
 rw[show(1:Int)=wd 1#32 from rfl,Aku,show(3988292384:Int)=wd 3988292384#32 from rfl,AlS]
 have e:∀x:BitVec 32, -wd x % 4294967296=wd (-x):=λx=>by
  unfold wd;rw[BitVec.toNat_neg];have:=x.isLt;omega
 rw[e,Aku,Agm];rfl
theorem AhF (g:Nat)(w:World)(hr:Row w g 323 (tbC 0 1 (X0 0))):
 Calls Tryz.prog 271 #[.pointer (some ⟨g,0,none⟩)] w λe w'=>e=.returned (.tuple #[])/\Row w' g 323 (tbC 0 1 stepsT)/\(w'=w\/Only g w w'):=by
 go_enter Tryz.func271,Tryz.ntmps271
 go_wp2_with fail
 go_loopw [4] (λi W=>∃k:Nat,i=.int .i64 (k:Int)/\k<=256/\Row W g 323 (tbC 0 1 (X0 k))/\(W=w\/Only g w W)) (λi _=>256-(intOf i).toNat)
 case atStart=>exact⟨0,rfl,by omega,hr,.inl rfl⟩
 case round=>
  obtain⟨k,rfl,hk,t,s⟩:=hrel;have p:=Lv t;have o:=Lv s;clear t s hr;by_cases l:k<256
  ·have y:(k:Int)<256:=by omega
   go_wp2_with fail
   go_loopw [3,9] (λc j W=>∃m:Nat,j=.int .i64 (m:Int)/\m<=8/\c=.int .u32 (wd (UU (BitVec.ofNat 32 k) m))/\W=wr) (λ_ j _=>8-(intOf j).toNat)
   case atStart=>exact⟨0,rfl,by omega,by rw[UU,wd,BitVec.toNat_ofNat,LE (by omega)],rfl⟩
   case round=>
    obtain⟨m,rfl,hm,rfl,rfl⟩:=hrel;obtain⟨c,d⟩:∃c,c=UU (BitVec.ofNat 32 k) m:=⟨_,rfl⟩;rw[<-d];have q:=Lv d;clear d;by_cases x:m<8
    ·have z:(m:Int)<8:=by omega
     go_wp2_with fail
     go_roundw
     case rel=>exact⟨m+1,by go_num,by omega,by rw[AkZ,UU,q.out],trivial⟩
     case measure=>simp[intOf];omega
    ·obtain rfl:m=8:=by omega
     go_wp2_with (refine Qk _ _ _ rfl ?_)
     refine Stop.to ?_;refine Qt rfl 42 _ _ rfl g (3+k) rfl _ rfl [.int .u32 (wd c)] rfl 323 _ (tbC 0 1 (X0 (k+1))) p.out (by kernel_rfl) (by rw[Ag7];show 3+k+1<=_;unfold X0;simp;omega) (by simp[Value.oneCell']) (by rw[<-Ah8 l, <-Amx,q.out];exact Ah9 _ _ _ (by rw[Ag7];unfold X0;simp;omega)) ?_;intro v u n
     have a:Hid (v=w\/Only g w v):=by
      rcases o.out with h|h
      ·subst h;exact .inr n
      ·exact .inr (h.trans' n)
     have b:=Lv u;clear u n;go_wp2_with fail
     go_roundw
     case rel=>exact⟨k+1,by go_num,by omega,b.out,a.out⟩
     case measure=>simp[intOf];omega
  ·obtain rfl:k=256:=by omega
   go_wp2
   go_end0
   exact⟨rfl,Af8▸p.out,o.out⟩
def crX (c:BitVec 32)(b:UInt8):Nat:=(c.toNat % 256) ^^^ b.toNat
theorem Afx (c:BitVec 32)(b:UInt8):crX c b<256:=Nat.xor_lt_two_pow (n:=8) (by omega) b.toNat_lt
def Ahw (c:BitVec 32)(b:UInt8):BitVec 32:=UU (BitVec.ofNat 32 (crX c b)) 8 ^^^ (c >>> 8)
theorem Ai2 (c:BitVec 32)(b:UInt8):(Ahw c b).toNat=crN c.toNat b.toNat:=by
 unfold Ahw crN;have i:=Afx c b;rw[BitVec.toNat_xor,Ad1,BitVec.toNat_ofNat,LE (by omega),BitVec.toNat_ushiftRight,N8]
 have d:(c.toNat ^^^ b.toNat) % 256=crX c b:=by
  have h:=Nat.xor_mod_two_pow (a:=c.toNat) (b:=b.toNat) (n:=8);rw[show(2:Nat) ^ 8=256 from rfl,LE b.toNat_lt]at h;exact h
 have e:(c.toNat ^^^ b.toNat) / 256=c.toNat / 256:=by
  have h:=Nat.xor_div_two_pow (a:=c.toNat) (b:=b.toNat) (n:=8);rw[show(2:Nat) ^ 8=256 from rfl,Nat.div_eq_of_lt b.toNat_lt,Nat.xor_zero]at h;exact h
 have g:c.toNat ^^^ b.toNat=crX c b ^^^ (256*(c.toNat / 256)):=by
  rw[<-AiP i, <-d, <-e];omega
 rw[g,Agw,show(256:Nat)=2 ^ 8 from rfl,Ab6]
theorem Akb{i:Nat}(h:i<256):stepsT.getD i 0=UU (BitVec.ofNat 32 i) 8:=by
 unfold stepsT;rw[LP,LR,List.getElem?_range h];rfl
theorem Aiq:stepsT.length=256:=by unfold stepsT;simp
theorem Ak2 (c:BitVec 32)(b:UInt8):bits .xor .u8 (wd c % 256) (b.toNat:Int)=(crX c b:Int):=by
 show IntKind.u8.wrap ((BitVec.ofInt 8 (wd c % 256) ^^^ BitVec.ofInt 8 (b.toNat:Int)).toNat:Int)=_;have e:=Afx c b;have d:=b.toNat_lt;rw[show wd c % 256=((c.toNat % 256:Nat):Int)from by unfold wd;omega,BitVec.ofInt_natCast,BitVec.ofInt_natCast,BitVec.toNat_xor,BitVec.toNat_ofNat,BitVec.toNat_ofNat,LE (a:=b.toNat) d,Nat.mod_mod];show IntKind.u8.wrap ((crX c b:Nat):Int)=_;rw[IntKind.wrap_u8];omega
def tbl (on:Bool):Array Value:=if on then tbC 1 0 stepsT else tbC 0 0 (X0 0)
theorem Ah2 (g:Nat)(on:Bool)(w:World)(hr:Row w g 323 (tbl on)):
 Calls Tryz.prog 191 #[.pointer (some ⟨g,0,none⟩),.func (.func 271) #[.pointer (some ⟨g,0,none⟩)] #[]] w λe w'=>e=.returned (.tuple #[])/\Row w' g 323 (tbl true)/\Below g w w':=by
 cases on
 ·have m:Row (w.setCell ⟨g,1,none⟩ (.int .i32 1)) g 323 (tbC 0 1 (X0 0)):=hr.set 1 _;refine(Ak8 271 g 0 323 (tbC 0 0 (X0 0)) (λj b=>j=tbC 0 1 stepsT/\Below g w b) w hr rfl rfl (λa w=>by simp[go_sem]) ((AhF g _ m).mono ?_)).mono ?_
  ·rintro e b ⟨rfl,c,n⟩;refine⟨rfl,_,c,rfl,rfl,rfl,?_⟩;have d:Below g w (w.setCell ⟨g,1,none⟩ (.int .i32 1)):=(Qu w g 1 _).below (Nat.le_refl _);rcases n with h|h
   ·rw[h];exact d
   ·exact d.trans (h.below (Nat.le_refl _))
  ·rintro e w' ⟨rfl,j,b,c,⟨rfl,k⟩,rfl⟩;have o:Row (b.drew.setCell ⟨g,0,none⟩ (.int .u32 1)) g 323 (tbC 1 1 stepsT):=Row.set (w:=b.drew) (cs:=tbC 0 1 stepsT) c 0 (.int .u32 1);refine⟨rfl,o.set 1 _,?_⟩;have l:Below g w b.drew:=k.trans ⟨rfl,rfl,rfl,Nat.le_refl _,λ_ _=>rfl⟩;exact(l.trans ((Qu b.drew g 0 _).below (Nat.le_refl _))).trans ((Qu _ g 1 _).below (Nat.le_refl _))
 ·refine(Ahz _ g 0 w (hr.cellv (i:=0) rfl)).mono ?_;rintro e w' ⟨rfl,rfl⟩;exact⟨rfl,hr,Below.refl _ _⟩
theorem Ah1 (g:Nat)(on:Bool)(c:BitVec 32)(b:UInt8)(w:World)(hr:Row w g 323 (tbl on)):
 Calls Tryz.prog 262 #[.pointer (some ⟨g,0,none⟩),.int .u32 (wd c),.int .u8 (b.toNat:Int)] w λe w'=>e=.returned (.int .u32 (wd (Ahw c b)))/\Row w' g 323 (tbl true)/\Below g w w':=by
 have H:=Lv (Ah2 g on w hr);have o:=Ak2 c b;have d:=Afx c b;obtain⟨x,a⟩:∃x,x=crX c b:=⟨_,rfl⟩;rw[<-a]at o d;have j:=Lv a;clear hr a;go_enter Tryz.func262,Tryz.ntmps262
 go_wp2_with fail
 refine H.out.mono ?_;rintro e q ⟨rfl,h,i⟩;have n:=h.cellv (Am4 (dn:=1) (st:=0) (l:=stepsT) (k:=x) (by rw[Aiq];exact d));rw[Akb d]at n;have p:(x:Int)<256:=by omega
 have m:=Lv (And.intro h i);clear H h i;go_wp2_with fail
 go_ret
 refine⟨?_,m.out⟩;show Ending.returned (.int .u32 (bits .xor .u32 (wd (UU (BitVec.ofNat 32 x) 8)) (wd c / 256)))=_;rw[AlT,Agm,j.out];rfl
def Afw (c:BitVec 32)(l:List UInt8):BitVec 32:=l.foldl Ahw c
theorem Ahv (c:BitVec 32)(l:List UInt8)(b:UInt8):Afw c (l++[b])=Ahw (Afw c l) b:=by unfold Afw;rw[List.foldl_append];rfl
theorem Ad2:∀(l:List UInt8) (c:BitVec 32),(Afw c l).toNat=crF c.toNat l
 |[],c=>by rw[Ak0];rfl
 |b::l,c=>by rw[Ai1, <-Ai2];exact Ad2 l (Ahw c b)
def Afy (s:List UInt8):BitVec 32:= ~~~ (Afw 4294967295#32 s)
theorem Ai4 (s:List UInt8):(Afy s).toNat=crZ s:=by
 unfold Afy crZ;rw[BitVec.toNat_not,Ad2];rfl
theorem Aki (g:Nat)(s:List UInt8)(w:World)(hs:s.length<=2000000)(hr:Row w g 323 (tbl false)):
 Calls Tryz.prog 245 #[.pointer (some ⟨g,0,none⟩),.string ⟨s.toArray⟩] w λe w'=>e=.returned (.int .u32 (wd (Afy s)))/\Below g w w':=by
 have y:(⟨s.toArray⟩:ByteArray).size=s.length:=by simp[ByteArray.size]
 have x:(s.length:Int)<=2000000:=by omega
 have v:=Lv hr;clear hr hs;go_enter Tryz.func245,Tryz.ntmps245
 go_wp2_with fail
 go_loopw [5,9] (λc i W=>∃k:Nat,i=.int .i64 (k:Int)/\k<=s.length/\c=.int .u32 (wd (Afw 4294967295#32 (s.take k)))/\∃on,Row W g 323 (tbl on)/\Below g w W) (λ_ i _=>s.length-(intOf i).toNat)
 case atStart=>exact⟨0,rfl,Nat.zero_le _,rfl,false,v.out,Below.refl _ _⟩
 case round=>
  obtain⟨k,rfl,hk,rfl,on,hr,t⟩:=hrel;obtain⟨c,j⟩:∃c,c=Afw 4294967295#32 (s.take k):=⟨_,rfl⟩;rw[<-j];have h:=Lv j;have o:=Lv t;clear j t;by_cases m:k<s.length
  ·have h1:(k:Int)<(s.length:Int):=by omega
   have h0:(0:Int)<=(k:Int):=by omega
   obtain⟨b,a⟩:∃b,s[k]? =some b:=⟨_,Ld m⟩;have l:=Adh a wr;have p:=Lv (Ah1 g on c b wr hr);have d:=Lv a;clear hr a;go_wp2_with fail
   refine p.out.mono ?_;rintro e w1 ⟨rfl,u,q⟩;have n:=Lv (And.intro u (o.out.trans q));clear p u q l;go_wp2_with fail
   go_roundw
   case rel=>exact⟨k+1,by go_num,by omega,by rw[ZE d.out,Ahv,h.out],true,n.out.1,n.out.2⟩
   case measure=>simp[intOf];omega
  ·obtain rfl:k=s.length:=by omega
   rw[Lm (Nat.le_refl _)]at h;clear hr;have z:IntKind.u32.signed=false:=rfl;go_wp2_with fail
   go_ret
   refine⟨?_,o.out⟩;unfold Afy;rw[<-h.out];show Ending.returned (.int .u32 (bits .xor .u32 (wd 4294967295#32) (wd c)))=_;rw[Agm,show 4294967295#32=BitVec.allOnes 32 from by decide,BitVec.allOnes_xor]
theorem Afz (s:List UInt8)(w:World)(hs:s.length<=2000000):
 Calls Tryz.prog 211 #[.string ⟨s.toArray⟩] w λe w'=>e=.returned (.int .u32 (wd (Afy s)))/\Below w.heap.size w w':=by
 have j:Calls Tryz.prog 244 #[] w λe w'=>∃g,e=.returned (.pointer (some ⟨g,0,none⟩))/\w.heap.size<=g/\Row w' g 323 (tbl false)/\Below w.heap.size w w':=by
  go_enter Tryz.func244,Tryz.ntmps244
  have k:∀W:World,(Instr.build 323 #[]).run Tryz.prog W=.ok (.agg (tbl false)) W:=λW=>by kernel_rfl
  go_wp2_with (first| (refine UO rfl (.agg (tbl false)) (Abh 323 [] rfl _ (by exact k _)) ?_)| (refine Qx _ _ rfl ?_))
  refine Stop.to ?_;refine Qf rfl 323 _ rfl (tbl false) rfl ?_;intro G o b m i;have a:=Lv (And.intro b (And.intro m (i.mono b)));clear k b m i;go_wp2_with fail
  go_ret
  exact⟨G,rfl,a.out⟩
 have t:=Lv hs;clear hs;go_enter Tryz.func211,Tryz.ntmps211
 go_wp2_with fail
 refine j.mono ?_;rintro e o ⟨g,rfl,l,n,d⟩;have c:=Lv (Aki g s o t.out n);have p:=Lv d;have q:=Lv l;clear j l n d;go_wp2_with fail
 refine c.out.mono ?_;rintro e u ⟨rfl,h⟩;have a:=Lv (p.out.trans (h.mono q.out));clear h c;go_wp2_with fail
 go_ret
 exact⟨rfl,a.out⟩
theorem Alh (c:BitVec 32):∃y0 y1 y2 y3:UInt8,leL c.toNat 4=[y0,y1,y2,y3]/\wd c % 256=(y0.toNat:Int)/\wd c / 256 % 256=(y1.toNat:Int)/\wd c / 65536 % 256=(y2.toNat:Int)/\wd c / 16777216 % 256=(y3.toNat:Int):=by
 have e:∀n:Nat,(UInt8.ofNat (n % 256)).toNat=n % 256:=λn=>by simp
 refine⟨_,_,_,_,rfl,?_,?_,?_,?_⟩<;>rw[e]<;>unfold wd<;>omega
theorem YD (s:List UInt8)(w:World)(hs:s.length<=2000000):
 Calls Tryz.prog 156 #[.string ⟨s.toArray⟩] w λe w'=>e=.returned (.string ⟨(Zn s).toArray⟩)/\Below w.heap.size w w':=by
 have a:=Lv (Afz s w hs);have o:Zn s=leL (Afy s).toNat 4:=by unfold Zn;rw[Ai4]
 rw[o];obtain⟨c,m⟩:∃c,c=Afy s:=⟨_,rfl⟩;rw[<-m]at a|-;clear hs m o;obtain⟨d,g,h,i,p,x,y,u,v⟩:=Alh c;rw[p];clear p;go_enter Tryz.func156,Tryz.ntmps156
 go_wp2_with fail
 refine a.out.mono ?_;rintro e q ⟨rfl,l⟩;have k:=Lv l;clear a l;have b:=XE (P:=Tryz.prog) 111 9 5 5 Tryz.underlying111 Tryz.underlying5 Tryz.underlying9 (cap:=4) (Row.new q 5 #[.int .u8 (d.toNat:Int),.int .u8 (g.toNat:Int),.int .u8 (h.toNat:Int),.int .u8 (i.toNat:Int)]) [d,g,h,i] (n:=4) rfl (λj _=>by simp[u8s]);have t:Hid (Below w.heap.size w (q.alloc (.cells #[.int .u8 (d.toNat:Int),.int .u8 (g.toNat:Int),.int .u8 (h.toNat:Int),.int .u8 (i.toNat:Int)] 5))):=k.out.alloc (k.out.size) _;go_wp2_with fail
 go_ret
 exact⟨rfl,t.out⟩
theorem Ad3 (s:List UInt8)(w:World)(hs:s.length<=2000000):
 Calls Tryz.prog 152 #[.string ⟨s.toArray⟩] w λe w'=>(∃b:Bool,(b=true<->Aeh s)/\e=.returned (.bool b))/\Below w.heap.size w w':=by
 have z:(⟨s.toArray⟩:ByteArray).size=s.length:=by simp[ByteArray.size]
 have y:(s.length:Int)<=2000000:=by omega
 have p:=Lv hs;have c:Hid (Aeh s<->4<=s.length/\Zn (s.take (s.length-4))=s.drop (s.length-4)):=Iff.rfl;clear hs;by_cases g:4<=s.length
 ·obtain⟨n,i⟩:∃n,s.length=n+4:=⟨s.length-4,by omega⟩;have t:IntKind.i64.wrap ((s.length:Int)-4)=(n:Int):=(IntWalk.i64_in _ (by omega)).trans (by omega);have k:∀W,Calls Tryz.prog 156 #[.string ⟨(s.take n).toArray⟩] W λe w'=>e=.returned (.string ⟨(Zn (s.take n)).toArray⟩)/\Below W.heap.size W w':=λW=>YD (s.take n) W (by rw[LH];have:=p.out;omega);have aa:(⟨s.toArray⟩:ByteArray).extract 0 n=⟨(s.take n).toArray⟩:=by rw[KV];simp
  have ab:(⟨s.toArray⟩:ByteArray).extract n s.length=⟨(s.drop n).toArray⟩:=by rw[KV,Lm (by simp)]
  have u:(0:Int)<=(n:Int):=by omega
  have v:(n:Int)<=(s.length:Int):=by omega
  have x:n<=s.length:=by omega
  have Hn:=Lv i;have j:Aeh s<->Zn (s.take n)=s.drop n:=by rw[c.out,i,Nat.add_sub_cancel];exact⟨λh=>h.2,λh=>⟨by omega,h⟩⟩
  have m:=Lv j;clear g i j c;have o:=Lv k;clear k;go_enter Tryz.func152,Tryz.ntmps152
  go_wp2_with fail
  refine QG (λW=>Below w.heap.size w W) (by kernel_rfl) (by kernel_rfl) (St.drew (S:=λW=>Below w.heap.size w W) (Below.refl _ _)) ?_
  iterate 6 (refine Qe rfl ?_ (λW d=>?_) ?_;rotate_left;(focus(go_simp;exact rfl));simp only[Act.put,Qa,Qb,Qc])
  (refine QA rfl 156 _ (λW=>by(go_simp;try rfl)) (.string ⟨(Zn (s.take n)).toArray⟩) (λW d=>o.out W) ?_;simp only[Act.put,Qa,Qb,Qc])
  iterate 6 (refine Qe rfl ?_ (λW d=>?_) ?_;rotate_left;(focus(go_simp;exact rfl));simp only[Act.put,Qa,Qb,Qc])
  refine QE λq a=>?_
  go_wp2_with fail
  go_ret
  exact⟨⟨Zn (s.take n)==s.drop n,by rw[beq_iff_eq];exact m.out.symm,rfl⟩,a⟩
 ·have t:IntKind.i64.wrap ((s.length:Int)-4)=(s.length:Int)-4:=IntWalk.i64_in _ (by omega);have e2:(s.length:Int)-4<0:=by omega
  have hd:decide ((4:Int)<=(s.length:Int))=false:=decide_eq_false (by omega);have l:Hid (¬Aeh s):=λh=>g (c.out.1 h).1;clear c g;go_enter Tryz.func152,Tryz.ntmps152
  go_wp2_with fail
  refine QG (λW=>Below w.heap.size w W) (by kernel_rfl) (by kernel_rfl) (St.drew (S:=λW=>Below w.heap.size w W) (Below.refl _ _)) ?_
  iterate 3 (refine Qe rfl ?_ (λW d=>?_) ?_;rotate_left;(focus(go_simp;exact rfl));simp only[Act.put,Qa,Qb,Qc])
  iterate 8 (refine Acn rfl ?_;simp only[Act.put,Qa,Qb,Qc])
  iterate 2 (refine Qe rfl ?_ (λW d=>?_) ?_;rotate_left;(focus(go_simp;exact rfl));simp only[Act.put,Qa,Qb,Qc])
  refine QE λq a=>?_
  go_wp2_with fail
  go_ret
  exact⟨⟨false,by simpa using l.out,rfl⟩,a⟩
def QO (x:Sec):Array Value:=#[.int .i64 x.t,.string ⟨x.d.toArray⟩]
theorem AaI (x:Sec)(w:World)(ht:0<=x.t/\x.t<=255)(hd:x.d.length<=900000):
 Calls Tryz.prog 167 #[.agg (QO x)] w λe w'=>e=.returned (.string ⟨(Zt x).toArray⟩)/\Below w.heap.size w w':=by
 obtain⟨t,d⟩:=x
 obtain⟨b,hb⟩:∃b:UInt8,t=(b.toNat:Int):=⟨UInt8.ofNat t.toNat,by
  have:(UInt8.ofNat t.toNat).toNat=t.toNat % 256:=by simp
  rw[this];have:=ht.1;have:=ht.2;simp only at*;omega⟩
 subst hb;have e0:Zt ⟨(b.toNat:Int),d⟩=[b]++QC d.length:=by unfold Zt;simp
 have ag:(⟨d.toArray⟩:ByteArray).size=d.length:=by simp[ByteArray.size]
 have ae:(d.length:Int)<=900000:=by simp only at hd;omega
 have ad:(b.toNat:Int)<256:=by have:=b.toNat_lt;omega
 have ah:IntKind.u8.wrap (b.toNat:Int)=(b.toNat:Int):=by rw[IntKind.wrap_u8];omega
 have ac:IntKind.u64.wrap (d.length:Int)=(d.length:Int):=by rw[IntKind.wrap_u64];omega
 rw[e0];clear ht hd e0;go_enter Tryz.func167,Tryz.ntmps167
 go_wp2_with (refine Qx _ _ rfl ?_)
 refine Stop.to ?_;refine Qf rfl 48 _ rfl (QO ⟨(b.toNat:Int),d⟩) rfl ?_;intro G Gw y Gr Gb;have b1:=Gb.mono y;have HG:=Lv y;clear Gb y;go_wp2_with fail
 obtain⟨q,h⟩:∃V,V=Gw.drew:=⟨_,rfl⟩;have u:Row q G 48 (QO ⟨(b.toNat:Int),d⟩):=by rw[h];exact Gr
 have s:Below w.heap.size w q:=by rw[h];exact b1.trans ⟨rfl,rfl,rfl,Nat.le_refl _,λ_ _=>rfl⟩
 refine wp_region_held (S:=λW=>Row W G 48 (QO ⟨(b.toNat:Int),d⟩)) (by kernel_rfl) ?_;simp only[Ly,Le,Ll,Nat.reduceAdd,Ln,Lp,Lz,Lu,Lk];show wpAnyH _ _ _ _ _ _ _ _ Gw.drew;rw[<-h];clear h b1 Gr;have p:=s.size;(refine tkH 1 (.pointer (some ⟨G,0,none⟩)) rfl (Qd rfl (λW j=>by(go_simp))) ?_;simp only[Act.put,Qa,Qb,Qc]);(refine tkH 2 (.int .i64 (b.toNat:Int)) rfl (Qd rfl (λW j=>by((have c:=Row.cellv j (i:=0) (v:=.int .i64 (b.toNat:Int)) rfl;go_simp)))) ?_;simp only[Act.put,Qa,Qb,Qc]);(refine tkH 3 (.int .u8 (b.toNat:Int)) rfl (Qd rfl (λW j=>by(go_simp))) ?_;simp only[Act.put,Qa,Qb,Qc]);(refine tkH 5 (.pointer (some ⟨G,1,none⟩)) rfl (Qd rfl (λW j=>by(go_simp))) ?_;simp only[Act.put,Qa,Qb,Qc]);(refine tkH 6 (.string ⟨d.toArray⟩) rfl (Qd rfl (λW j=>by((have c:=Row.cellv j (i:=1) (v:=.string ⟨d.toArray⟩) rfl;go_simp)))) ?_;simp only[Act.put,Qa,Qb,Qc]);(refine tkH 7 (.int .i64 (d.length:Int)) rfl (Qd rfl (λW j=>by(go_simp))) ?_;simp only[Act.put,Qa,Qb,Qc]);(refine tkH 8 (.int .u64 (d.length:Int)) rfl (Qd rfl (λW j=>by(go_simp))) ?_;simp only[Act.put,Qa,Qb,Qc]);(refine wpAnyH_all (rs:=[0]) (by kernel_rfl) (by simp) (λi o=>?_);obtain rfl:i=0:=by simpa using o);refine Qg rfl rfl (λk a=>?_);refine Qm 84 #[] (w1:=q) (by go_simp) ((JS q).mono ?_);rintro e W1 ⟨g,rfl,h1,z,hg⟩;refine⟨_,rfl,?_⟩;refine a _ _ ?_;clear a k;simp only[Act.put,Qa,Qb,Qc];have l:=Row.below u z (Row.lt u);have bb:=s.trans (z.mono s.size);refine⟨l,?_⟩;have af:G<g:=Lg (Row.lt u) hg;clear u s z;(refine wpAnyH_all (rs:=[4]) (by kernel_rfl) (by simp) (λi o=>?_);obtain rfl:i=4:=by simpa using o);refine Qg rfl rfl (λk a=>?_);refine Qm 85 #[.pointer (some ⟨g,0,none⟩),.int .u8 (b.toNat:Int)] (w1:=W1) (by go_simp) ((JT g g [] b (by simp) W1 h1).mono ?_);rintro e W2 ⟨rfl,h2,f2⟩;refine⟨_,rfl,?_⟩;refine a _ _ ?_;clear a k;simp only[Act.put,Qa,Qb,Qc];have m:=f2.row l (by omega) (by decide);have aa:=bb.trans ((f2.below (Nat.le_refl _) (by have:=h1.lt;omega)).mono (Lj p hg));refine⟨m,?_⟩;clear l h1 f2;(refine wpAnyH_all (rs:=[9]) (by kernel_rfl) (by simp) (λi o=>?_);obtain rfl:i=9:=by simpa using o);refine Qg rfl rfl (λk a=>?_);refine Qm 88 #[.pointer (some ⟨g,0,none⟩),.int .u64 (d.length:Int)] (w1:=W2) (by go_simp) ((Z2 g g _ d.length (by simp) (by omega) W2 h2).mono ?_);rintro e W3 ⟨rfl,h3,f3⟩;refine⟨_,rfl,?_⟩;refine a _ _ ?_;clear a k;simp only[Act.put,Qa,Qb,Qc];have n:=f3.row m (by omega) (by decide);have ab:=aa.trans ((f3.below (Nat.le_refl _) (by have:=h2.lt;omega)).mono (Lj p hg));refine⟨n,?_⟩;clear m h2 f3;(refine wpAnyH_all (rs:=[10]) (by kernel_rfl) (by simp) (λi o=>?_);obtain rfl:i=10:=by simpa using o);refine Qg rfl rfl (λk a=>?_);refine Qm 87 #[.pointer (some ⟨g,0,none⟩)] (w1:=W3) (by go_simp) ((ZZ g g _ W3 h3).mono ?_);rintro e W4 ⟨rfl,rfl⟩;refine⟨_,rfl,?_⟩;refine a _ _ ?_;clear a k;simp only[Act.put,Qa,Qb,Qc];refine⟨n,?_⟩;(refine tkH 11 (.string ⟨([]++[b]++QC d.length).toArray⟩) rfl (Qd rfl (λW j=>by(go_simp))) ?_;simp only[Act.put,Qa,Qb,Qc]);refine wpAnyH_done (by kernel_rfl) ?_ _;clear n h3;go_wp2_with fail
 go_ret
 exact⟨rfl,ab⟩
def AaK (x:Sec):List UInt8×Int:=if x.t<0\/255<x.t then([],1)else if 1048576<x.d.length then([],4)else(frL x,0)
theorem AhJ (x:Sec)(w:World)(hd:x.d.length<=900000):
 Calls Tryz.prog 93 #[.agg (QO x)] w λe w'=>e=.returned (.tuple #[.string ⟨(AaK x).1.toArray⟩,.int .i64 (AaK x).2])/\Below w.heap.size w w':=by
 obtain⟨z,u⟩:∃z,z=AaK x:=⟨_,rfl⟩;rw[<-u];have g:=Lv u;clear u;obtain⟨t,d⟩:=x;have af:(⟨d.toArray⟩:ByteArray).size=d.length:=by simp[ByteArray.size]
 have ad:(d.length:Int)<=900000:=by simp only at hd;omega
 clear hd;go_enter Tryz.func93,Tryz.ntmps93
 go_wp2_with (refine Qx _ _ rfl ?_)
 refine Stop.to ?_;refine Qf rfl 48 _ rfl (QO ⟨t,d⟩) rfl ?_;intro G Gw p m y;have j:=y.mono p;have HG:=Lv p;have c0:=Row.cellv m (i:=0) (v:=.int .i64 t) rfl;have c1:=Row.cellv m (i:=1) (v:=.string ⟨d.toArray⟩) rfl;clear y p;by_cases h1:t<0
 ·obtain rfl:z=([],1):=g.out.trans (if_pos (.inl h1));have b:=Lv j;clear g j;go_wp2_with fail
  go_ret2
  exact⟨rfl,b.out⟩
 by_cases h2:255<t
 ·obtain rfl:z=([],1):=g.out.trans (if_pos (.inr h2));have b:=Lv j;clear g j;go_wp2_with fail
  go_ret2
  exact⟨rfl,b.out⟩
 obtain⟨h,o⟩:∃h,h=Zt ⟨t,d⟩:=⟨_,rfl⟩;have hF:frL ⟨t,d⟩=h++d++Zn (h++d):=by unfold frL;rw[<-o];simp
 obtain rfl:z=(h++d++Zn (h++d),0):=g.out.trans (((if_neg (by simp only;omega)).trans (if_neg (by simp only;omega))).trans (by rw[hF]));have Ht:Hid (0<=t/\t<=255):=⟨by omega,by omega⟩;clear g hF;have aa:(⟨h.toArray⟩:ByteArray)++⟨d.toArray⟩=⟨(h++d).toArray⟩:=by apply ByteArray.ext;simp
 have s:(⟨(h++d).toArray⟩:ByteArray)++⟨(Zn (h++d)).toArray⟩=⟨(h++d++Zn (h++d)).toArray⟩:=by apply ByteArray.ext;simp
 have a:(h++d).length<=2000000:=by
  rw[o,La];unfold Zt;have:=Qz d.length;simp only[Le];omega
 have HH:Hid (∀W,Calls Tryz.prog 167 #[.agg (QO ⟨t,d⟩)] W λe w'=>e=.returned (.string ⟨h.toArray⟩)/\Below W.heap.size W w'):=λW=>by rw[o];exact AaI ⟨t,d⟩ W Ht.out (by show d.length<=_;omega)
 have HT:=Lv a;have ae:¬9223372036854775807<h.length+d.length:=by rw[La]at a;omega
 have ag:(Zn (h++d)).length=4:=X7 _;have ab:¬9223372036854775807<h.length+d.length+4:=by rw[La]at a;omega
 clear o a;go_wp2_with fail
 refine QG (λW=>Row W G 48 (QO ⟨t,d⟩)/\Below w.heap.size w W) (by kernel_rfl) (by kernel_rfl) (St.drew (S:=λW=>Row W G 48 (QO ⟨t,d⟩)/\Below w.heap.size w W) ⟨m,j⟩) ?_;clear m j c0 c1;(refine ZN rfl 48 _ rfl (G) rfl 48 _ _ (λW h=>h.1) Tryz.underlying48 rfl (by kernel_rfl) ?_;simp only[Act.put,Qa,Qb,Qc]);(refine QA rfl 167 _ (λW=>by(go_simp;try rfl)) (.string ⟨h.toArray⟩) (λW n=>HH.out W) ?_;simp only[Act.put,Qa,Qb,Qc])
 (refine Qe rfl ?_ (λW n=>?_) ?_;rotate_left;(focus(go_simp;exact rfl));simp only[Act.put,Qa,Qb,Qc]);(refine Qe rfl ?_ (λW n=>?_) ?_;rotate_left;(focus(have c:=Row.cellv n.1 (i:=1) (v:=.string ⟨d.toArray⟩) rfl;go_simp;exact rfl));simp only[Act.put,Qa,Qb,Qc])
 iterate 2 (refine Qe rfl ?_ (λW n=>?_) ?_;rotate_left;(focus(go_simp;exact rfl));simp only[Act.put,Qa,Qb,Qc])
 refine QE λW9 l=>?_
 have b:=Lv l.2;clear l;go_wp2_with fail
 refine(YD (h++d) W9 HT.out).mono ?_;rintro e ac ⟨rfl,k⟩;have q:=Lv (b.out.trans (k.mono b.out.size));clear k;go_wp2_with fail
 go_ret2
 exact⟨rfl,q.out⟩
end Go.Proofs.YtgnmkiafeplbpaaGreatDoor
