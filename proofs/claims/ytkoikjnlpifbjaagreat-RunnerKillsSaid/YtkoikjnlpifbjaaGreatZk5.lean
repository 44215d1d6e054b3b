/- Lemmas for RunnerKillsP. -/
import Derived.Test.YtkoikjnlpifbjaaGreatZk2
import Derived.Test.YtkoikjnlpifbjaaGreatZk4
import Derived.Test.YtkoikjnlpifbjaaGreatZk3
import Derived.Test.YtkoikjnlpifbjaaGreatZk1
import Derived.ChangeMaps4
set_option linter.unusedVariables false
set_option linter.unusedSimpArgs false
set_option maxRecDepth 100000
set_option maxHeartbeats 16000000
namespace Go.Proofs.YtkoikjnlpifbjaaGreat
open Go.RowKit Go.Deep
def Z5 (p:PgV)(dn st:Int)(v:Value):Array Value:=#[.int .i64 p.params,.slice p.va p.V.length p.vcap,.slice p.ba p.body.length p.bcap,.int .u32 dn,.int .i32 st,.int .u32 0,v]
theorem XS (a:Addr)(x:Int)(w:World)(hc:w.cell? a=some (.int .u32 x)):
 Calls Tryz.prog 107 #[.pointer (some a)] w λe w'=>e=.returned (.bool (x != 0))/\w'=w:=by
 have c:=run_call_load (P:=Tryz.prog) Tryz.func140 (by kernel_rfl) (by kernel_rfl) (by kernel_rfl) .u32 (by kernel_rfl) hc;go_enter Tryz.func107,Tryz.ntmps107
 go_wp2
 go_ret
 exact⟨rfl,rfl⟩
theorem AeS (bk:Nat)(p:PgV)(v0:Value)(R:Value->World->Prop)(w:World)(hr:Row w bk 98 (Z5 p 0 0 v0))
 (hF:Calls Tryz.prog 79 #[.pointer (some ⟨bk,0,none⟩)] (w.setCell ⟨bk,4,none⟩ (.int .i32 1)) λe w1=>e=.returned (.tuple #[])/\∃v,Row w1 bk 98 (Z5 p 0 1 v)/\R v w1):
 Calls Tryz.prog 108 #[.pointer (some ⟨bk,3,none⟩),.func (.func 79) #[.pointer (some ⟨bk,0,none⟩)] #[]] w λe w'=>
  e=.returned (.tuple #[])/\∃v w1,Row w1 bk 98 (Z5 p 0 1 v)/\R v w1/\w'=(w1.drew.setCell ⟨bk,3,none⟩ (.int .u32 1)).setCell ⟨bk,4,none⟩ (.int .i32 0):=by
 have c:=Lh (Abs ⟨bk,4,none⟩ w (hr.cellv (i:=4) rfl) (hr.free 4));have l:Row (w.setCell ⟨bk,4,none⟩ (.int .i32 1)) bk 98 (Z5 p 0 1 v0):=hr.set 4 _;generalize w.setCell ⟨bk,4,none⟩ (.int .i32 1)=w1 at c l hF;have j:=Lh hF;have d:=Lh (XS ⟨bk,3,none⟩ 0 w1 (l.cellv (i:=3) rfl));have k:∀(x:Bool) (w:World),(Op.unary .not (.bool x)).run Tryz.prog w=.ok (.bool (!x)) w:=λ_ _=>rfl
 clear hr hF;go_enter_defers Tryz.func108,Tryz.ntmps108
 go_wp2_with fail
 refine c.out.mono ?_;rintro e w' ⟨rfl,rfl⟩;clear c;go_wp2_with fail
 refine d.out.mono ?_;rintro e w' ⟨rfl,rfl⟩;clear d;go_wp2_with fail
 refine j.out.mono ?_;rintro e h ⟨rfl,v,g,n⟩;clear j;go_wp2_with fail
 refine leaves_cons (f:=143) (args:=#[.pointer (some ⟨bk,3,none⟩),.bool true]) (by simp) (by simp[go_sem]) ?_;refine(YJ ⟨bk,3,none⟩ (.int .u32 0) .returning _ (g.cellv (i:=3) rfl) (g.free 3)).mono ?_;rintro e o q ⟨rfl,rfl,rfl⟩;have m:Row (h.drew.setCell ⟨bk,3,none⟩ (.int .u32 1)) bk 98 (Z5 p 1 1 v):=Row.set (w:=h.drew) (cs:=Z5 p 0 1 v) g 3 (.int .u32 1);refine leaves_cons (f:=142) (args:=#[.pointer (some ⟨bk,4,none⟩)]) (by simp[settle]) (by simp[go_sem]) ?_;refine(Yr ⟨bk,4,none⟩ _ _ (m.cellv (i:=4) rfl) (m.free 4)).mono ?_;rintro e o s ⟨rfl,rfl,rfl⟩;simp only[Leaves,settle];refine⟨_,results_none rfl _ _ _,rfl,v,h,g,n,rfl⟩
theorem AeR (bk:Nat)(p:PgV)(v0:Value)(R:Value->World->Prop)(w:World)(hr:Row w bk 98 (Z5 p 0 0 v0))
 (hF:Calls Tryz.prog 79 #[.pointer (some ⟨bk,0,none⟩)] (w.setCell ⟨bk,4,none⟩ (.int .i32 1)) λe w1=>e=.returned (.tuple #[])/\∃v,Row w1 bk 98 (Z5 p 0 1 v)/\R v w1):
 Calls Tryz.prog 70 #[.pointer (some ⟨bk,3,none⟩),.func (.func 79) #[.pointer (some ⟨bk,0,none⟩)] #[]] w λe w'=>
  e=.returned (.tuple #[])/\∃v w1,Row w1 bk 98 (Z5 p 0 1 v)/\R v w1/\w'=(w1.drew.setCell ⟨bk,3,none⟩ (.int .u32 1)).setCell ⟨bk,4,none⟩ (.int .i32 0):=by
 have c:=Lh (XS ⟨bk,3,none⟩ 0 w (hr.cellv (i:=3) rfl));have d:=Lh (AeS bk p v0 R w hr hF);have g:∀(x:Bool) (w:World),(Op.unary .not (.bool x)).run Tryz.prog w=.ok (.bool (!x)) w:=λ_ _=>rfl
 clear hr hF;go_enter Tryz.func70,Tryz.ntmps70
 go_wp2_with fail
 refine c.out.mono ?_;rintro e w' ⟨rfl,rfl⟩;clear c;go_wp2_with fail
 refine d.out.mono ?_;rintro e j ⟨rfl,h⟩;clear d;go_wp2_with fail
 go_end0
 exact⟨rfl,h⟩
theorem Agn (a:Addr)(x:Int)(w:World)(hc:w.cell? a=some (.int .i64 x)):
 Calls Tryz.prog 33 #[.pointer (some a)] w λe w'=>e=.returned (.int .i64 x)/\w'=w:=by
 have c:=run_call_load (P:=Tryz.prog) Tryz.func78 (by kernel_rfl) (by kernel_rfl) (by kernel_rfl) .i64 (by kernel_rfl) hc;go_enter Tryz.func33,Tryz.ntmps33
 go_wp2
 go_ret
 exact⟨rfl,rfl⟩
theorem AhB (a:Addr)(x s:Int)(w:World)(hc:w.cell? a=some (.int .i64 x))(hz:w.frozen? a=false)(hs:IntKind.i64.wrap (x+1)=s):
 Calls Tryz.prog 28 #[.pointer (some a),.int .i64 1] w λe w'=>e=.returned (.int .i64 s)/\w'=w.setCell a (.int .i64 s):=by
 have c:=run_call_add (P:=Tryz.prog) Tryz.func73 (by kernel_rfl) (by kernel_rfl) (by kernel_rfl) .i64 (by kernel_rfl) (y:=1) (s:=s) hc hz (by simp[go_sem];exact hs);go_enter Tryz.func28,Tryz.ntmps28
 go_wp2
 go_ret
 exact⟨rfl,rfl⟩
theorem AjL (f g o:Nat)(T:TypeId)(cs:Array Value)(R:Array Value->World->Prop)(w:World)(hr:Row w g T cs)(h0:cs[o]? =some (.int .u32 0))(h1:cs[o+1]? =some (.int .i32 0))
 (hf:∀a w,(callFunc f a).run Tryz.prog w=.ok (.enter f a) w)
 (hF:Calls Tryz.prog f #[.pointer (some ⟨g,0,none⟩)] (w.setCell ⟨g,o+1,none⟩ (.int .i32 1)) λe w1=>e=.returned (.tuple #[])/\∃ds,Row w1 g T ds/\ds[o]? =some (.int .u32 0)/\ds[o+1]? =some (.int .i32 1)/\R ds w1):
 Calls Tryz.prog 108 #[.pointer (some ⟨g,o,none⟩),.func (.func f) #[.pointer (some ⟨g,0,none⟩)] #[]] w λe w'=>
  e=.returned (.tuple #[])/\∃ds w1,Row w1 g T ds/\R ds w1/\w'=(w1.drew.setCell ⟨g,o,none⟩ (.int .u32 1)).setCell ⟨g,o+1,none⟩ (.int .i32 0):=by
 have c:=Lh (Abs ⟨g,o+1,none⟩ w (hr.cellv h1) (hr.free (o+1)));have k:Row (w.setCell ⟨g,o+1,none⟩ (.int .i32 1)) g T (cs.setIfInBounds (o+1) (.int .i32 1)):=hr.set (o+1) _;have h:(cs.setIfInBounds (o+1) (.int .i32 1))[o]? =some (.int .u32 0):=by rw[Array.getElem?_setIfInBounds_ne (by omega)];exact h0
 generalize w.setCell ⟨g,o+1,none⟩ (.int .i32 1)=w1 at c k hF;have m:=Lh hF;have d:=Lh (XS ⟨g,o,none⟩ 0 w1 (k.cellv h));have n:∀(x:Bool) (w:World),(Op.unary .not (.bool x)).run Tryz.prog w=.ok (.bool (!x)) w:=λ_ _=>rfl
 clear hr hF h0 h1 k h;go_enter_defers Tryz.func108,Tryz.ntmps108
 go_wp2_with fail
 refine c.out.mono ?_;rintro e w' ⟨rfl,rfl⟩;clear c;go_wp2_with fail
 refine d.out.mono ?_;rintro e w' ⟨rfl,rfl⟩;clear d;go_wp2_with fail
 refine m.out.mono ?_;rintro e l ⟨rfl,ds,i,q,s,t⟩;clear m hf;go_wp2_with fail
 refine leaves_cons (f:=143) (args:=#[.pointer (some ⟨g,o,none⟩),.bool true]) (by simp) (by simp[go_sem]) ?_;refine(YJ ⟨g,o,none⟩ (.int .u32 0) .returning _ (i.cellv q) (i.free o)).mono ?_;rintro e u v ⟨rfl,rfl,rfl⟩;have p:Row (l.drew.setCell ⟨g,o,none⟩ (.int .u32 1)) g T (ds.setIfInBounds o (.int .u32 1)):=Row.set (w:=l.drew) (cs:=ds) i o (.int .u32 1);have j:(ds.setIfInBounds o (.int .u32 1))[o+1]? =some (.int .i32 1):=by rw[Array.getElem?_setIfInBounds_ne (by omega)];exact s
 refine leaves_cons (f:=142) (args:=#[.pointer (some ⟨g,o+1,none⟩)]) (by simp[settle]) (by simp[go_sem]) ?_;refine(Yr ⟨g,o+1,none⟩ _ _ (p.cellv j) (p.free (o+1))).mono ?_;rintro e u y ⟨rfl,rfl,rfl⟩;simp only[Leaves,settle];refine⟨_,results_none rfl _ _ _,rfl,ds,l,i,t,rfl⟩
theorem AjJ (f g o:Nat)(T:TypeId)(cs:Array Value)(R:Array Value->World->Prop)(w:World)(hr:Row w g T cs)(h0:cs[o]? =some (.int .u32 0))(h1:cs[o+1]? =some (.int .i32 0))
 (hf:∀a w,(callFunc f a).run Tryz.prog w=.ok (.enter f a) w)
 (hF:Calls Tryz.prog f #[.pointer (some ⟨g,0,none⟩)] (w.setCell ⟨g,o+1,none⟩ (.int .i32 1)) λe w1=>e=.returned (.tuple #[])/\∃ds,Row w1 g T ds/\ds[o]? =some (.int .u32 0)/\ds[o+1]? =some (.int .i32 1)/\R ds w1):
 Calls Tryz.prog 70 #[.pointer (some ⟨g,o,none⟩),.func (.func f) #[.pointer (some ⟨g,0,none⟩)] #[]] w λe w'=>
  e=.returned (.tuple #[])/\∃ds w1,Row w1 g T ds/\R ds w1/\w'=(w1.drew.setCell ⟨g,o,none⟩ (.int .u32 1)).setCell ⟨g,o+1,none⟩ (.int .i32 0):=by
 have c:=Lh (XS ⟨g,o,none⟩ 0 w (hr.cellv h0));have d:=Lh (AjL f g o T cs R w hr h0 h1 hf hF);have i:∀(x:Bool) (w:World),(Op.unary .not (.bool x)).run Tryz.prog w=.ok (.bool (!x)) w:=λ_ _=>rfl
 clear hr hF h0 h1 hf;go_enter Tryz.func70,Tryz.ntmps70
 go_wp2_with fail
 refine c.out.mono ?_;rintro e w' ⟨rfl,rfl⟩;clear c;go_wp2_with fail
 refine d.out.mono ?_;rintro e j ⟨rfl,h⟩;clear d;go_wp2_with fail
 go_end0
 exact⟨rfl,h⟩
theorem AgE (v:Value)(g o:Nat)(w:World)(h1:w.cell? ⟨g,o,none⟩=some (.int .u32 1)):
 Calls Tryz.prog 70 #[.pointer (some ⟨g,o,none⟩),v] w λe w'=>e=.returned (.tuple #[])/\w'=w:=by
 have c:=Lh (XS ⟨g,o,none⟩ 1 w h1);have d:∀(x:Bool) (w:World),(Op.unary .not (.bool x)).run Tryz.prog w=.ok (.bool (!x)) w:=λ_ _=>rfl
 clear h1;go_enter Tryz.func70,Tryz.ntmps70
 go_wp2_with fail
 refine c.out.mono ?_;rintro e w' ⟨rfl,rfl⟩;clear c;go_wp2_with fail
 go_end0
 exact⟨rfl,rfl⟩
end Go.Proofs.YtkoikjnlpifbjaaGreat
namespace Go.Proofs.YtkoikjnlpifbjaaGreat
def ZR (a b:Int):Int:=if a<b then-1 else if b<a then 1 else 0
def ZD:List Int->List Int->Int
 |[],[]=>0
 |[],_::_=> -1
 |_::_,[]=>1
 |a::xs,b::ys=>if ZR a b≠0 then ZR a b else ZD xs ys
structure Dl where
 path:List Int
 op:Int
 n:Int
def orI (a b:Int):Int:=if a≠0 then a else b
def KU (d e:Dl):Int:=orI (ZD d.path e.path) (orI (ZR d.op e.op) (ZR d.n e.n))
theorem YU (a:Int):ZR a a=0:=by unfold ZR;rw[if_neg (by omega),if_neg (by omega)]
theorem cmpI_eq{a b:Int}:ZR a b=0<->a=b:=by
 unfold ZR;constructor
 ·intro h;split at h
  ·cases h
  ·split at h
   ·cases h
   ·omega
 ·rintro rfl;rw[if_neg (by omega),if_neg (by omega)]
theorem cmpI_lt{a b:Int}:ZR a b<0<->a<b:=by
 unfold ZR;split
 ·simp_all
 ·split<;>simp<;>omega
theorem Ey (a b:Int):ZR b a= -ZR a b:=by
 unfold ZR
 repeat' split
 all_goals omega
theorem AbU (a b:Int):ZR a b= -1\/ZR a b=0\/ZR a b=1:=by
 unfold ZR
 repeat' split
 all_goals simp
theorem Abb:∀a:List Int,ZD a a=0
 |[]=>rfl
 |x::xs=>by rw[ZD,YU,if_neg (by simp),Abb xs]
theorem cmpL_eq:∀{a b:List Int},ZD a b=0<->a=b
 |[],[]=>by simp[ZD]
 |[],_::_=>by simp[ZD]
 |_::_,[]=>by simp[ZD]
 |a::xs,b::ys=>by
  rw[ZD]
  by_cases h:ZR a b=0
  ·rw[if_neg (by simpa using h),cmpL_eq,cmpI_eq.1 h];simp
  ·rw[if_pos h]
   constructor
   ·intro e;exact absurd e h
   ·intro e;injection e with e1 e2;exact absurd (cmpI_eq.2 e1) h
theorem Ac4:∀(a b:List Int),ZD b a= -ZD a b
 |[],[]=>by simp[ZD]
 |[],_::_=>by simp[ZD]
 |_::_,[]=>by simp[ZD]
 |a::xs,b::ys=>by
  rw[ZD,ZD,Ey a b]
  by_cases h:ZR a b=0
  ·rw[if_neg (by omega),if_neg (by omega),Ac4 xs ys]
  ·rw[if_pos (by omega),if_pos h]
theorem AfP:∀(a b:List Int),ZD a b= -1\/ZD a b=0\/ZD a b=1
 |[],[]=>by simp[ZD]
 |[],_::_=>by simp[ZD]
 |_::_,[]=>by simp[ZD]
 |a::xs,b::ys=>by
  rw[ZD]
  split
  ·exact AbU a b
  ·exact AfP xs ys
theorem EA:∀{a b c:List Int},ZD a b<0->ZD b c<0->ZD a c<0
 |[],[],_,h,_=>by simp[ZD]at h
 |[],b::ys,[],_,h=>by simp[ZD]at h
 |[],b::ys,c::zs,_,_=>by simp[ZD]
 |a::xs,[],_,h,_=>by simp[ZD]at h
 |a::xs,b::ys,[],_,h=>by simp[ZD]at h
 |a::xs,b::ys,c::zs,h1,h2=>by
  rw[ZD]at h1 h2|-
  by_cases e1:ZR a b=0
  ·rw[if_neg (by simpa using e1)]at h1
   have:=cmpI_eq.1 e1
   subst this
   by_cases e2:ZR a c=0
   ·rw[if_neg (by simpa using e2)]at h2|-
    exact EA h1 h2
   ·rw[if_pos e2]at h2|-
    exact h2
  ·rw[if_pos e1]at h1
   by_cases e2:ZR b c=0
   ·have:=cmpI_eq.1 e2
    subst this
    rw[if_pos e1];exact h1
   ·rw[if_pos e2]at h2
    have h3:ZR a c<0:=cmpI_lt.2 (Int.lt_trans (cmpI_lt.1 h1) (cmpI_lt.1 h2))
    rw[if_pos (by omega)];exact h3
theorem AiC{a b:Int}:orI a b=0<->a=0/\b=0:=by
 unfold orI;split
 ·rename_i h;exact⟨λe=>absurd e h,λe=>e.1⟩
 ·rename_i h;exact⟨λe=>⟨by omega,e⟩,λe=>e.2⟩
theorem cmpD_eq{d e:Dl}:KU d e=0<->d=e:=by
 unfold KU;rw[AiC,AiC,cmpL_eq,cmpI_eq,cmpI_eq];cases d;cases e;simp
theorem Aba (d:Dl):KU d d=0:=cmpD_eq.2 rfl
theorem Aga (a b:Int):orI (-a) (-b)= -orI a b:=by
 unfold orI;by_cases h:a=0
 ·rw[if_neg (by omega),if_neg (by omega)]
 ·rw[if_pos (by omega),if_pos h]
theorem AhO (d e:Dl):KU e d= -KU d e:=by
 unfold KU;rw[Ac4,Ey d.op,Ey d.n,Aga,Aga]
theorem AiB{a b:Int}(h1:a= -1\/a=0\/a=1)(h2:b= -1\/b=0\/b=1):orI a b= -1\/orI a b=0\/orI a b=1:=by
 unfold orI;split<;>assumption
theorem AjC (d e:Dl):KU d e= -1\/KU d e=0\/KU d e=1:=AiB (AfP _ _) (AiB (AbU _ _) (AbU _ _))
theorem AeM{d e f:Dl}(h1:KU d e<0)(h2:KU e f<0):KU d f<0:=by
 unfold KU orI at*;by_cases h:ZD d.path e.path=0
 ·rw[if_neg (by simpa using h)]at h1;rw[cmpL_eq.1 h];by_cases c:ZD e.path f.path=0
  ·rw[if_neg (by simpa using c)]at h2|-;by_cases i:ZR d.op e.op=0
   ·rw[if_neg (by simpa using i)]at h1;rw[cmpI_eq.1 i];by_cases g:ZR e.op f.op=0
    ·rw[if_neg (by simpa using g)]at h2|-;exact cmpI_lt.2 (Int.lt_trans (cmpI_lt.1 h1) (cmpI_lt.1 h2))
    ·rw[if_pos g]at h2|-;exact h2
   ·rw[if_pos i]at h1;by_cases g:ZR e.op f.op=0
    ·rw[<-cmpI_eq.1 g,if_pos i];exact h1
    ·rw[if_pos g]at h2;have j:ZR d.op f.op<0:=cmpI_lt.2 (Int.lt_trans (cmpI_lt.1 h1) (cmpI_lt.1 h2));rw[if_pos (by omega)];exact j
  ·rw[if_pos c]at h2|-;exact h2
 ·rw[if_pos h]at h1;by_cases c:ZD e.path f.path=0
  ·rw[<-cmpL_eq.1 c,if_pos h];exact h1
  ·rw[if_pos c]at h2;have j:=EA h1 h2;rw[if_pos (by omega)];exact j
def YI:List Dl->Prop
 |[]=>True
 |[_]=>True
 |a::b::l=>KU a b<0/\YI (b::l)
theorem Afp{a:Dl}{l:List Dl}(h:YI (a::l)):YI l:=by
 cases l with
 |nil=>trivial
 |cons b l=>exact h.2
theorem Aac:∀{l:List Dl} {a b:Dl},YI (a::l)->b∈l->KU a b<0
 |[],_,_,_,h=>by simp at h
 |c::l,a,b,hr,h=>by
  rcases Ls.1 h with rfl|h
  ·exact hr.1
  ·exact AeM hr.1 (Aac hr.2 h)
theorem Vm:∀{l:List Dl} {i j:Nat} {a b:Dl},YI l->l[i]? =some a->l[j]? =some b->i<j->KU a b<0
 |[],_,_,_,_,_,h,_,_=>by simp at h
 |c::l,0,0,_,_,_,_,_,h=>by omega
 |c::l,0,j+1,a,b,hr,h1,h2,_=>by
  simp at h1 h2
  subst h1
  exact Aac hr (Lf h2)
 |c::l,i+1,0,_,_,_,_,_,h=>by omega
 |c::l,i+1,j+1,a,b,hr,h1,h2,h=>Vm (Afp hr) (by simpa using h1) (by simpa using h2) (by omega)
end Go.Proofs.YtkoikjnlpifbjaaGreat
namespace Go.Proofs.YtkoikjnlpifbjaaGreat
open Go.RowKit
def J9:List Int->Prop
 |[]=>True
 |[_]=>True
 |a::b::l=>a<b/\J9 (b::l)
theorem Kz{a:Int}{l:List Int}(h:J9 (a::l)):J9 l:=by
 cases l with
 |nil=>trivial
 |cons b l=>exact h.2
theorem JD:∀{l:List Int} {a b:Int},J9 (a::l)->b∈l->a<b
 |[],_,_,_,h=>by simp at h
 |c::l,a,b,hr,h=>by
  rcases Ls.1 h with rfl|h
  ·exact hr.1
  ·exact Int.lt_trans hr.1 (JD hr.2 h)
theorem Aad{a:Int}{l:List Int}(h:J9 l)(hl:∀b∈l,a<b):J9 (a::l):=by
 cases l with
 |nil=>trivial
 |cons b l=>exact⟨hl b (by simp),h⟩
theorem Vn:∀{l m:List Int},J9 l->J9 m->(∀x,x∈l<->x∈m)->l=m
 |[],[],_,_,_=>rfl
 |[],b::m,_,_,h=>absurd ((h b).2 (by simp)) (by simp)
 |a::l,[],_,_,h=>absurd ((h a).1 (by simp)) (by simp)
 |a::l,b::m,h1,h2,h=>by
  have hab:a=b:=by
   rcases Ls.1 ((h a).1 (by simp))with e|i
   ·exact e
   ·rcases Ls.1 ((h b).2 (by simp))with e|j
    ·exact e.symm
    ·have:=JD h1 j;have:=JD h2 i;omega
  subst hab
  rw[Vn (Kz h1) (Kz h2) λx=>?_]
  constructor
  ·intro c
   have d:=JD h1 c
   rcases Ls.1 ((h x).1 (by simp[c]))with e|g
   ·omega
   ·exact g
  ·intro c
   have d:=JD h2 c
   rcases Ls.1 ((h x).2 (by simp[c]))with e|g
   ·omega
   ·exact g
def AaM (a:Int):List Int->List Int
 |[]=>[a]
 |b::l=>if a<b then a::b::l else if a=b then b::l else b::AaM a l
theorem EP (a x:Int):∀l:List Int,x∈AaM a l<->x=a\/x∈l
 |[]=>by simp[AaM]
 |b::l=>by
  rw[AaM]
  split
  ·simp
  ·split
   ·rename_i e;subst e;simp
   ·rw[Ls,EP a x l,Ls]
    constructor
    ·rintro(h|h|h)<;>simp[h]
    ·rintro(h|h|h)<;>simp[h]
theorem Abn (a:Int):∀{l:List Int},J9 l->J9 (AaM a l)
 |[],_=>trivial
 |b::l,h=>by
  rw[AaM]
  split
  ·rename_i hab;exact⟨hab,h⟩
  ·split
   ·exact h
   ·rename_i h1 h2
    refine Aad (Abn a (Kz h)) λx hx=>?_
    rcases (EP a x l).1 hx with rfl|hx
    ·omega
    ·exact JD h hx
def Xq:List Int->List Int
 |[]=>[]
 |a::l=>AaM a (Xq l)
theorem Y7 (x:Int):∀l:List Int,x∈Xq l<->x∈l
 |[]=>by simp[Xq]
 |a::l=>by rw[Xq,EP,Y7 x l,Ls]
theorem Xs:∀l:List Int,J9 (Xq l)
 |[]=>trivial
 |a::l=>Abn a (Xs l)
theorem JX (f:Int->Bool):∀{l:List Int},J9 l->J9 (l.filter f)
 |[],_=>trivial
 |a::l,h=>by
  rw[List.filter_cons]
  split
  ·exact Aad (JX f (Kz h)) λb hb=>JD h ((Nl.1 hb).1)
  ·exact JX f (Kz h)
def isC (x y:Nd)(op n:Int):Bool:=
 if op=1 then decide (7<=x.tag/\x.tag<=11/\7<=n/\n<=11/\n≠x.tag)else if op=2 then decide (12<=x.tag/\x.tag<=17/\12<=n/\n<=17/\n≠x.tag)
 else if op=3 then decide (18<=x.tag/\x.tag<=19/\18<=n/\n<=19/\n≠x.tag)
 else if op=4 then decide ((x.tag=1/\(n=0\/n=1\/n= -1\/n=wrap64 (x.n+1)\/n=wrap64 (x.n-1))/\n≠x.n)\/(x.tag=2/\n=wrap64 (1-x.n)))
 else if op=5 then decide ((x.tag=21\/x.tag=22\/x.tag=23\/x.tag=24\/x.tag=25)/\n=0)
 else if op=6 then decide ((x.tag=23\/x.tag=24)/\n=0)
 else if op=7 then decide (x.tag=25/\(n=0\/n=1)/\¬(y.tag=1/\y.n=n))else false
def Acv (x:Nd):List Int:=Xq ([-1,0,1,wrap64 (x.n-1),wrap64 (x.n+1)]++(List.range 13).map λi:Nat=>(i:Int)+7)
def Jm (x y:Nd):List (Int×Int):=((List.range 7).map λi:Nat=>(i:Int)+1).flatMap λop=>((Acv x).filter (isC x y op)).map λn=>(op,n)
theorem Abo{x y:Nd}{op n:Int}(h:isC x y op n=true)(h2:x.tag=2->x.n=0\/x.n=1):n∈Acv x:=by
 unfold Acv;rw[Y7]
 have c:∀k:Int,7<=k->k<=19->k∈(List.range 13).map λi:Nat=>(i:Int)+7:=λk d h2=>by
  rw[LK];exact⟨(k-7).toNat,Ny.2 (by omega),by omega⟩
 unfold isC at h;rw[L2]
 repeat' split at h
 all_goals(first| (cases h;done)|skip)
 all_goals(simp only[decide_eq_true_eq]at h)
 ·exact .inr (c n (by omega) (by omega))
 ·exact .inr (c n (by omega) (by omega))
 ·exact .inr (c n (by omega) (by omega))
 ·refine .inl ?_;rcases h with⟨_,h,_⟩|⟨d,h⟩
  ·simp;omega
  ·have:n=0\/n=1:=by
     subst h;unfold wrap64;rcases h2 d with e|e<;>rw[e]<;>omega
   simp;omega
 ·exact .inl (by simp;omega)
 ·exact .inl (by simp;omega)
 ·exact .inl (by simp;omega)
theorem AbT{x y:Nd}{op n:Int}(h2:x.tag=2->x.n=0\/x.n=1):(op,n)∈Jm x y<->isC x y op n=true:=by
 unfold Jm;rw[ND];constructor
 ·rintro⟨o,_,h⟩;rw[LK]at h;obtain⟨m,c,e⟩:=h;injection e with e1 e2;subst e1;subst e2;exact(Nl.1 c).2
 ·intro h
  have d:1<=op/\op<=7:=by
   unfold isC at h
   repeat' split at h
   all_goals(first| (cases h;done)|omega)
  refine⟨op,?_,?_⟩
  ·rw[LK];exact⟨(op-1).toNat,Ny.2 (by omega),by omega⟩
  ·rw[LK];exact⟨n,Nl.2 ⟨Abo h h2,h⟩,rfl⟩
mutual
def Q5 (own:List Int)(q:Nat):Tr->List (Nat×List Int)
 | .node _ ks=>(q,own)::ZF own (q+1) 0 ks
def ZF (own:List Int)(q:Nat)(i:Int):List Tr->List (Nat×List Int)
 |[]=>[]
 |t::ts=>Q5 (own++[i]) q t++ZF own (q+t.size) (i+1) ts
end
mutual
theorem Jk:∀(t:Tr) (own:List Int) (q:Nat),(Q5 own q t).length=t.size
 | .node x ks,own,q=>by rw[Q5,Lc,E8 ks,Tr.size,Tr.flat,Lc]
theorem E8:∀(ts:List Tr) (own:List Int) (q:Nat) (i:Int),(ZF own q i ts).length=(QM ts).length
 |[],_,_,_=>by simp[ZF,QM]
 |t::ts,own,q,i=>by rw[ZF,Le,Jk t,E8 ts,QM,Le];rfl
end
mutual
theorem Vl:∀(t:Tr) (own:List Int) (q j:Nat) (e:Nat×List Int),(Q5 own q t)[j]? =some e->e.1=q+j
 | .node x ks,own,q,0,e,h=>by simp[Q5]at h;subst h;rfl
 | .node x ks,own,q,j+1,e,h=>by
  rw[Q5,LW]at h
  have:=AbD ks own (q+1) 0 j e h
  omega
theorem AbD:∀(ts:List Tr) (own:List Int) (q:Nat) (i:Int) (j:Nat) (e:Nat×List Int),(ZF own q i ts)[j]? =some e->e.1=q+j
 |[],_,_,_,_,_,h=>by simp[ZF]at h
 |t::ts,own,q,i,j,e,h=>by
  rw[ZF]at h
  by_cases hj:j<t.size
  ·rw[L3 (by rw[Jk];exact hj)]at h
   exact Vl t _ q j e h
  ·rw[Lx (by rw[Jk];omega),Jk]at h
   have:=AbD ts own _ (i+1) _ e h
   omega
end
def ZO:List Int->Nat->Tr->Option (Nat×Tr)
 |[],q,t=>some (q,t)
 |i::π,q,.node _ ks=>if i<0 then none else match (Q1 (q+1) ks)[i.toNat]?,ks[i.toNat]? with
  |some r,some k=>ZO π r k
  |_,_=>none
theorem UA{l:List Nd}:∀{π:List Int} {q r:Nat} {t k:Tr},At l q t->ZO π q t=some (r,k)->At l r k
 |[],q,r,t,k,h,e=>by simp[ZO]at e;obtain⟨rfl,rfl⟩:=e;exact h
 |i::π,q,r,.node x ks,k,h,e=>by
  rw[ZO]at e
  split at e
  ·cases e
  ·split at e
   ·rename_i r1 k1 h1 h2
    exact UA (h.kids.spot i.toNat r1 k1 h1 h2).1 e
   ·cases e
mutual
theorem J7:∀(t:Tr) (own:List Int) (q r:Nat) (π:List Int),(r,own++π)∈Q5 own q t<->∃k,ZO π q t=some (r,k)
 | .node x ks,own,q,r,[]=>by
  rw[Q5,LR,Ls,ZO]
  constructor
  ·rintro(e|h)
   ·injection e with e1 _;subst e1;exact⟨_,rfl⟩
   ·obtain⟨j,ρ,e,_⟩:=Xn ks own (q+1) 0 r own h
    have:=congrArg List.length e
    simp at this
  ·rintro⟨k,e⟩
   injection e with e;injection e with e1 e2
   subst e1;exact .inl rfl
 | .node x ks,own,q,r,i::π=>by
  rw[Q5,Ls,ZO]
  have hne:(r,own++i::π)≠(q,own):=λe=>by
   injection e with _ e;have:=congrArg List.length e;simp at this
  rw[or_iff_right hne,VJ ks own (q+1) 0 r i π]
  constructor
  ·rintro⟨hi,s,k,c,d,g,l⟩
   rw[Int.sub_zero]at c d
   rw[if_neg (by omega),c,d]
   exact⟨g,l⟩
  ·rintro⟨g,h⟩
   split at h
   ·cases h
   ·split at h
    ·rename_i s k c d
     exact⟨by omega,s,k,by rw[Int.sub_zero];exact c,by rw[Int.sub_zero];exact d,g,h⟩
    ·cases h
theorem Xn:∀(ts:List Tr) (own:List Int) (q:Nat) (i:Int) (r:Nat) (σ:List Int),(r,σ)∈ZF own q i ts->∃(j:Int) (ρ:List Int),σ=own++j::ρ/\i<=j
 |[],_,_,_,_,_,h=>by simp[ZF]at h
 |t::ts,own,q,i,r,σ,h=>by
  rw[ZF,L2]at h
  rcases h with h|h
  ·obtain⟨ρ,e⟩:=Um t (own++[i]) q r σ h
   exact⟨i,ρ,by rw[e];simp,Int.le_refl _⟩
  ·obtain⟨j,ρ,e,hj⟩:=Xn ts own _ (i+1) r σ h
   exact⟨j,ρ,e,by omega⟩
theorem Um:∀(t:Tr) (own:List Int) (q r:Nat) (σ:List Int),(r,σ)∈Q5 own q t->∃ρ,σ=own++ρ
 | .node x ks,own,q,r,σ,h=>by
  rw[Q5,Ls]at h
  rcases h with e|h
  ·injection e with _ e;exact⟨[],by rw[e];simp⟩
  ·obtain⟨j,ρ,e,_⟩:=Xn ks own (q+1) 0 r σ h
   exact⟨j::ρ,e⟩
theorem VJ:∀(ts:List Tr) (own:List Int) (q:Nat) (i:Int) (r:Nat) (j:Int) (π:List Int),(r,own++j::π)∈ZF own q i ts<->i<=j/\∃s k,(Q1 q ts)[(j-i).toNat]? =some s/\ts[(j-i).toNat]? =some k/\∃k',ZO π s k=some (r,k')
 |[],_,_,_,_,_,_=>by simp[ZF]
 |t::ts,own,q,i,r,j,π=>by
  rw[ZF,L2,VJ ts own _ (i+1) r j π]
  constructor
  ·rintro(h|⟨hi,s,k,h1,h2,h3⟩)
   ·obtain⟨ρ,e⟩:=Um t (own++[i]) q r _ h
    rw[Ly,List.append_cancel_left_eq]at e
    injection e with e1 e2
    subst e1
    rw[show own++j::π=(own++[j])++π by simp]at h
    refine⟨Int.le_refl _,q,t,by simp[Q1],by simp,(J7 t (own++[j]) q r π).1 h⟩
   ·refine⟨by omega,s,k,?_,?_,h3⟩
    ·rw[show(j-i).toNat=(j-(i+1)).toNat+1 by omega,Q1,LW];exact h1
    ·rw[show(j-i).toNat=(j-(i+1)).toNat+1 by omega,LW];exact h2
  ·rintro⟨hi,s,k,h1,h2,h3⟩
   by_cases e:j=i
   ·subst e
    rw[Int.sub_self]at h1 h2
    simp[Q1]at h1 h2
    subst h1;subst h2
    refine .inl ?_
    rw[show own++j::π=(own++[j])++π by simp]
    exact(J7 t (own++[j]) q r π).2 h3
   ·refine .inr ⟨by omega,s,k,?_,?_,h3⟩
    ·rw[show(j-i).toNat=(j-(i+1)).toNat+1 by omega,Q1,LW]at h1;exact h1
    ·rw[show(j-i).toNat=(j-(i+1)).toNat+1 by omega,LW]at h2;exact h2
end
theorem Ez:∀(own a b:List Int),ZD (own++a) (own++b)=ZD a b
 |[],_,_=>rfl
 |x::own,a,b=>by rw[Ll,Ll,ZD,YU,if_neg (by simp),Ez own]
def Aag:List (Nat×List Int)->Prop
 |[]=>True
 |a::l=>(∀b∈l,ZD a.2 b.2<0)/\Aag l
theorem UP:∀{l m:List (Nat×List Int)},Aag l->Aag m->(∀a∈l,∀b∈m,ZD a.2 b.2<0)->Aag (l++m)
 |[],m,_,h,_=>h
 |a::l,m,h1,h2,h=>⟨λb hb=>by
  rcases L2.1 hb with hb|hb
  ·exact h1.1 b hb
  ·exact h a (by simp) b hb,UP h1.2 h2 (λx hx y hy=>h x (by simp[hx]) y hy)⟩
mutual
theorem VL:∀(t:Tr) (own:List Int) (q:Nat),Aag (Q5 own q t)
 | .node x ks,own,q=>by
  rw[Q5]
  refine⟨λb hb=>?_,VK ks own (q+1) 0⟩
  obtain⟨r,σ⟩:=b
  obtain⟨j,ρ,e,_⟩:=Xn ks own (q+1) 0 r σ hb
  simp only
  rw[e,show ZD own (own++j::ρ)=ZD (own++[]) (own++j::ρ) by rw[LR],Ez]
  simp[ZD]
theorem VK:∀(ts:List Tr) (own:List Int) (q:Nat) (i:Int),Aag (ZF own q i ts)
 |[],_,_,_=>trivial
 |t::ts,own,q,i=>by
  rw[ZF]
  refine UP (VL t _ q) (VK ts own _ (i+1)) λa ha b hb=>?_
  obtain⟨r,σ⟩:=a
  obtain⟨r',σ'⟩:=b
  obtain⟨ρ,e⟩:=Um t (own++[i]) q r σ ha
  obtain⟨j,ρ',e',hj⟩:=Xn ts own _ (i+1) r' σ' hb
  simp only
  have hij:ZR i j<0:=cmpI_lt.2 (by omega)
  rw[e,e',Ly,Ez,Ll,Lm,ZD,if_pos (by omega)]
  exact hij
end
theorem Aaf:∀{l:List Int},J9 l->l.Pairwise (· <·)
 |[],_=>.nil
 |a::l,h=>.cons (λb hb=>JD h hb) (Aaf (Kz h))
theorem AiO{l:List Dl}(h:l.Pairwise λa b=>KU a b<0):YI l:=by
 induction h with
 |nil=>trivial
 |@cons a l ha _ ih=>
  cases l with
  |nil=>trivial
  |cons b l=>exact⟨ha b (by simp),ih⟩
theorem Aah:∀{l:List (Nat×List Int)},Aag l->l.Pairwise λa b=>ZD a.2 b.2<0
 |[],_=>.nil
 |a::l,h=>.cons h.1 (Aah h.2)
theorem AaL (x y:Nd):(Jm x y).Pairwise λa b=>a.1<b.1\/(a.1=b.1/\a.2<b.2):=by
 unfold Jm;rw[List.pairwise_flatMap];refine⟨λe _=>?_,?_⟩
 ·rw[N8];exact(Aaf (JX _ (Xs _))).imp λh=>.inr ⟨rfl,h⟩
 ·rw[N8];refine List.pairwise_lt_range.imp λ{i j} hij=>?_
  intro a c b d;rw[LK]at c d;obtain⟨m,_,rfl⟩:=c;obtain⟨n,_,rfl⟩:=d;exact .inl (by show(i:Int)+1<(j:Int)+1;omega)
def Vi (l:List Nd)(q:Nat):Nd:=(l[q]?).getD ⟨0,0⟩
def Ja (l:List Nd)(q:Nat):List (Int×Int):=Jm (Vi l q) (Vi l (q+1))
def Ze (l:List Nd)(t:Tr):List Dl:=(Q5 [] 0 t).flatMap λe=>(Ja l e.1).map λc=>⟨e.2,c.1,c.2⟩
theorem U7 (l:List Nd)(t:Tr):YI (Ze l t):=by
 refine AiO ?_;unfold Ze;rw[List.pairwise_flatMap];refine⟨λe _=>?_,?_⟩
 ·rw[N8];refine(AaL _ _).imp λ{a b} h=>?_
  unfold KU orI;simp only[Abb];rw[if_neg (by simp)];rcases h with h|⟨j,k⟩
  ·have:=cmpI_lt.2 h;rw[if_pos (by omega)];exact this
  ·rw[if_neg (by simpa using cmpI_eq.2 j)];exact cmpI_lt.2 k
 ·refine(Aah (VL t [] 0)).imp λ{a b} h=>?_
  intro d g e i;rw[LK]at g i;obtain⟨c,_,rfl⟩:=g;obtain⟨m,_,rfl⟩:=i;unfold KU orI;simp only;rw[if_pos (by omega)];exact h
theorem allZ_mem{l:List Nd}{t:Tr}{d:Dl}:d∈Ze l t<->∃q k,ZO d.path 0 t=some (q,k)/\(d.op,d.n)∈Ja l q:=by
 unfold Ze;rw[ND];constructor
 ·rintro⟨⟨q,π⟩,g,e⟩;rw[LK]at e;obtain⟨c,h,rfl⟩:=e;obtain⟨k,i⟩:=(J7 t [] 0 q π).1 (by simpa using g);exact⟨q,k,i,h⟩
 ·rintro⟨q,k,g,e⟩;refine⟨(q,d.path),?_,?_⟩
  ·have:=(J7 t [] 0 q d.path).2 ⟨k,g⟩;simpa using this
  ·rw[LK];exact⟨_,e,rfl⟩
theorem Akk{l:List Dl}(h:YI l){m:Nat}{d e:Dl}(hm:l[m]? =some e)(hc:KU e d<0):∀i,l[i]? =some d->m<i:=by
 intro i hi;rcases Nk m i with x|x|x
 ·exact x
 ·subst x;rw[hm]at hi;injection hi with hi;subst hi;rw[Aba]at hc;omega
 ·have:=Vm h hi hm x;rw[AhO]at this;omega
theorem Akj{l:List Dl}(h:YI l){m:Nat}{d e:Dl}(hm:l[m]? =some e)(hc:0<KU e d):∀i,l[i]? =some d->i<m:=by
 intro i hi;rcases Nk i m with x|x|x
 ·exact x
 ·subst x;rw[hm]at hi;injection hi with hi;subst hi;rw[Aba]at hc;omega
 ·have:=Vm h hm hi x;omega
end Go.Proofs.YtkoikjnlpifbjaaGreat
namespace Go.Proofs.YtkoikjnlpifbjaaGreat
open Go.RowKit Go.Deep
def MapB (w:World)(r:Nat)(es:List (Int×Value)):Prop:=∃(arr:Array MapEntry) (clock:Nat),w.heap[r]? =some (.map arr clock)/\arr.toList.map (λe=>(e.key,e.val))=es.map (λp=>(Value.int .i64 p.1,p.2))
def JK (k:Int):List (Int×Value)->Option Value
 |[]=>none
 | (k',v)::es=>if k=k' then some v else JK k es
theorem MapB.lt{w:World}{r:Nat}{es:List (Int×Value)}(h:MapB w r es):r<w.heap.size:=by
 obtain⟨arr,c,d,_⟩:=h;exact(Lr.1 d).1
theorem MapB.below{w w':World}{r B:Nat}{es:List (Int×Value)}(h:MapB w r es)(b:Below B w w')(hr:r<B):MapB w' r es:=by
 obtain⟨arr,c,d,e⟩:=h;exact⟨arr,c,(b.block r hr).trans d,e⟩
instance St.mapB{r:Nat}{es:List (Int×Value)}:St (λW=>MapB W r es):=⟨λh b=>h.below b h.lt⟩
theorem YC (k:Int):∀(l:List MapEntry) (es:List (Int×Value)) (i:Nat),l.map (λe=>(e.key,e.val))=es.map (λp=>(Value.int .i64 p.1,p.2))->
 (match JK k es with|some v=>∃j,Instr.findNow (.int .i64) (.int .i64 k) l i=some (some (j,v))|none=>Instr.findNow (.int .i64) (.int .i64 k) l i=some none)
 |[],es,i,h=>by
  have:es=[]:=by simpa using h.symm
  subst this;rfl
 |e::l,[],i,h=>by simp at h
 |e::l,(k',v)::es,i,h=>by
  simp only[LP,N5,Prod.mk.injEq]at h
  obtain⟨⟨h1,h2⟩,h3⟩:=h
  have ih:=YC k l es (i+1) h3
  have e1:Instr.findNow (.int .i64) (.int .i64 k) (e::l) i=match Instr.sameNow (.int .i64) (.int .i64 k) e.key with|some true=>some (some (i,e.val))|some false=>Instr.findNow (.int .i64) (.int .i64 k) l (i+1)|none=>none:=rfl
  rw[e1,h1]
  have e2:Instr.sameNow (.int .i64) (.int .i64 k) (.int .i64 k')=some (k==k'):=rfl
  rw[e2,JK]
  by_cases hk:k=k'
  ·rw[if_pos hk]
   refine⟨i,?_⟩
   rw[show(k==k')=true by simpa using hk,h2]
  ·rw[if_neg hk,show(k==k')=false by simpa using hk]
   exact ih
section
variable {P:Program} {w:World} {t kt et:TypeId} {r:Nat} {es:List (Int×Value)}
theorem KB{b:Bool}{k:Int}(hk:P.underlying kt=some (.int .i64)):(Instr.checkKey b 10000 kt (.int .i64 k)).run P w=.ok () w:=by
 show(Instr.checkKey b (9999+1) kt (.int .i64 k)).run P w=.ok () w;rw[Instr.checkKey];simp[run_underlying hk]
theorem Aap (ht:P.underlying t=some (.map kt et))(hk:P.underlying kt=some (.int .i64))(h:MapB w r es)(k:Int){z:Value}(hz:(zeroValue et).run P w=.ok z w):
 (Instr.lookup t (.map (some r)) (.int .i64 k) false).run P w=.ok ((JK k es).getD z) w:=by
 obtain⟨arr,d,e,i⟩:=h;have c:=YC k arr.toList es 0 i;unfold Instr.lookup Instr.findKey;cases ha:JK k es with
 |some v=>
  rw[ha]at c;obtain⟨j,g⟩:=c;simp[run_underlying ht,run_underlying hk,KB hk,MapKept.run_getObj_map e,g]
 |none=>
  rw[ha]at c;simp only at c;simp[run_underlying ht,run_underlying hk,KB hk,MapKept.run_getObj_map e,c,hz]
theorem Aao (ht:P.underlying t=some (.map kt et))(hk:P.underlying kt=some (.int .i64))(h:MapB w r es)(k:Int)(v:Value)(hn:JK k es=none):
 ∃w',(Instr.mapUpdate t (.map (some r)) (.int .i64 k) v).run P w=.ok () w'/\MapB w' r (es++[(k,v)])/\Only r w w':=by
 obtain⟨arr,c,d,l⟩:=h;have g:=YC k arr.toList es 0 l;rw[hn]at g;simp only at g;have i:r<w.heap.size:=(Lr.1 d).1;refine⟨{ w with heap:=w.heap.setIfInBounds r (.map (arr.push { key:=.int .i64 k,val:=v,born:=c }) (c+1)) },?_,⟨arr.push { key:=.int .i64 k,val:=v,born:=c },c+1,?_,?_⟩,⟨rfl,rfl,rfl,by simp,λj m=>?_⟩⟩
 ·unfold Instr.mapUpdate Instr.findKey;simp[run_underlying ht,run_underlying hk,KB hk,MapKept.run_getObj_map d,g,MapKept.run_setObj_map _ d]
 ·simp[i]
 ·simp[l]
 ·simp[N6];intro e;exact absurd e.symm m
theorem MapB.new (w:World):MapB (w.alloc (.map #[] 0)) w.heap.size []:=⟨#[],0,heap_alloc_new w _,rfl⟩
end
section
variable {P:Program} {ops:Array Oper} {rest:List Oper} {o:Oper} {a:Act} {w:World} {Q:Exit->Act->World->Prop} {t kt et:TypeId} {r:Nat} {es:List (Int×Value)}
theorem VU{ρ:Operand->Value}{m x y:Operand}(ho:o.op=.insert t m x y\/o.op=.mapUpdate t m x y){k v:Value}{r:Value}(hm:ρ m=r)(hx:ρ x=k)(hy:ρ y=v){w':World}(h:(Instr.mapUpdate t r k v).run P w=.ok () w'):(execOp ρ o).run P w=.ok .skip w':=by
 rcases ho with ho|ho<;>simp[execOp,ho,hm,hx,hy,h]
theorem XH (hgd:o.guard=none)(m x y:Operand)(ho:o.op=.insert t m x y\/o.op=.mapUpdate t m x y)(ht:P.underlying t=some (.map kt et))(hk:P.underlying kt=some (.int .i64))(hb:MapB w r es)(hm:a.eval m=.map (some r))(k:Int)(v:Value)(hx:a.eval x=.int .i64 k)(hy:a.eval y=v)(hn:JK k es=none)
 (h:∀w',MapB w' r (es++[(k,v)])->Only r w w'->wpList P ops Q rest (a.put o.dst undef) w'):wpList P ops Q (o::rest) a w:=
 wpList_plain hgd λ_ hK=>by
  obtain⟨w',h1,h2,h3⟩:=Aao ht hk hb k v hn
  unfold Oper.wp
  rw[VU ho hm hx hy h1]
  exact hK _ _ (h w' h2 h3)
theorem ZQ (hgd:o.guard=none)(m x:Operand)(ho:o.op=.lookup t m x false)(ht:P.underlying t=some (.map kt et))(hk:P.underlying kt=some (.int .i64))(hb:MapB w r es)(hm:a.eval m=.map (some r))(k:Int)(hx:a.eval x=.int .i64 k){z:Value}(hz:(zeroValue et).run P w=.ok z w)
 (h:wpList P ops Q rest (a.put o.dst ((JK k es).getD z)) w):wpList P ops Q (o::rest) a w:=
 KD hgd _ (by simp only[execOp,ho,hm,hx,Sem.run_bind,Aap ht hk hb k hz,Result.andThen_ok,Sem.run_pure]) h
end
theorem UE:∀{ks:List Tr} {k:Tr},k∈ks->k.size<=(QM ks).length
 |[],_,h=>by simp at h
 |t::ts,k,h=>by
  rw[QM,Le]
  rcases Ls.1 h with rfl|h
  ·simp[Tr.size]
  ·have:=UE h;omega
theorem Ab9{w:World}{base n:Nat}{e:TypeId}{v:Value}{xs:List Value}(h:w.ownsRow base e 1 v n xs):∃A cap,v=.slice A n cap/\Rd w A xs/\n<=cap/\(A=none->cap=0):=by
 have x:xs.length=n:=by have:=h.1;omega
 rcases h.2 with⟨rfl,k⟩|⟨g,cap,c,rfl,t,m,l,y,p,q⟩
 ·have s:xs=[]:=Lt (by omega);subst s;refine⟨none,0,by rw[k],Rd.nil _ _,by omega,λ_=>rfl⟩
 ·refine⟨some ⟨g,0,none⟩,cap,rfl,λj u d=>⟨_,rfl,?_⟩,l,λh=>by cases h⟩;have o:Row w g e c:=m
  exact o.from_ 0 (cs:=xs) (λj v d=>by
   rw[LG, <-Ng]
   have i:(c.toList.take (n*1))[j]? =some v:=by rw[q];exact d
   rw[LQ (by have:=(La.1 d).1;omega)]at i;exact i) j u d
theorem Jl (W:World)(xs:List Value)(t:TypeId):Rd (W.alloc (.cells xs.toArray t)) (some ⟨W.heap.size,0,none⟩) xs:=λj u hj=>⟨_,rfl,Z9 W xs t j u hj⟩
theorem Vx{w:World}:(zeroValue 65).run Tryz.prog w=.ok (.agg #[.int .i64 0,.int .i64 0]) w:=by kernel_rfl
end Go.Proofs.YtkoikjnlpifbjaaGreat
