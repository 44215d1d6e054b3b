/- Lemmas for RunnerKillsP. -/
import Derived.Test.YtkoikjnlpifbjaaGreatZk1
import Derived.Test.YtkoikjnlpifbjaaGreatZk43
import Derived.Test.YtkoikjnlpifbjaaGreatZk29
import Derived.Test.YtkoikjnlpifbjaaGreatZk34
import Derived.Test.YtkoikjnlpifbjaaGreatZk32
set_option linter.unusedVariables false
set_option linter.unusedSimpArgs false
set_option maxRecDepth 100000
set_option maxHeartbeats 16000000
namespace Go.Proofs.YtkoikjnlpifbjaaGreat
open Go.RowKit Go.Deep
theorem Ac7 (p:PgV)(aa:Option Addr)(acap n:Nat)(fuel:Int)(w:World)(hbl:p.body.length<=1000)(hn:n<=1000)(hok:p.ok w)(hc:Q7 p n fuel≠0):
 Calls Tryz.prog 57 #[.agg p.cells,.slice aa n acap,.int .i64 fuel] w λe w'=>e=.returned (.tuple #[.agg #[.int .i64 0,.int .i64 0,.int .i64 0,.slice none 0 0],.int .i64 (Q7 p n fuel)])/\Below w.heap.size w w':=by
 have q:=Lh hok;have m:=Lh hbl;have z:=Lh hn;obtain⟨cz,g⟩:∃cz,Q7 p n fuel=cz:=⟨_,rfl⟩;have o:=Lh g;rw[g]at hc|-;have ec:(cz==0)=false:=by simpa using hc
 clear hok hbl hn g hc;go_enter Tryz.func57,Tryz.ntmps57
 go_wp2_with (refine Qq _ _ rfl ?_)
 refine Stop.to ?_;refine Qe rfl 25 _ rfl p.cells rfl ?_;intro G w1 v k h;replace h:=(Below.refl w.heap.size w).trans (h.mono v);clear v;go_wp2_with (refine QH _ rfl ?_)
 refine Stop.to ?_;refine Qj rfl 114 rfl _ _ Kd rfl ?_;intro RB w2 c x i;replace k:=k.below (i.mono c) k.lt;have j:w.heap.size<=RB:=Ld h.size c;replace i:=h.trans ((i.mono c).mono h.size);have u:=Lh k;have d:=Lh x;have l:=Lh i;clear k h i x c;go_wp2_with (refine wpList_load_row rfl 25 _ rfl G rfl 25 p.cells (0,0) _ u.out Tryz.underlying25 rfl (by kernel_rfl) ?_)
 refine(Yi p aa acap n fuel m.out z.out w2 (q.out.go l.out)).mono ?_;rintro e w3 ⟨rfl,t⟩;rw[o.out];have s:=Lh (d.out.below t d.out.lt);have y:=Lh (l.out.trans (t.mono l.out.size));clear t u d l;go_wp2_with (refine Qs _ _ _ rfl ?_)
 refine Stop.to ?_;refine Qk rfl 114 _ _ rfl RB #[.int .i64 0,.int .i64 0,.int .i64 0,.slice none 0 0] rfl rfl 114 _ s.out (by kernel_rfl) rfl (XE 0 0 0 rfl) ?_;intro W9 r9 o9;go_wp2_with fail
 refine bodyPost_ret (QZ Tryz.results57 _ _ RB 114 _ (0,0) _ rfl r9 Tryz.underlying114 rfl (by kernel_rfl)) rfl ?_;exact⟨rfl,Qp y.out o9 j⟩
theorem AkE (p:PgV)(aa:Option Addr)(acap:Nat)(args:List Int)(fuel:Int)(w:World)(hbl:p.body.length<=1000)(hn:args.length<=1000)(hok:p.ok w)(hra:Rd w aa (Qi args))(hin:∀a∈args,InI a):
 Calls Tryz.prog 57 #[.agg p.cells,.slice aa args.length acap,.int .i64 fuel] w λe w'=>RunA (QG p args fuel) (Q7 p args.length fuel) w w' e:=by
 by_cases c:Q7 p args.length fuel=0
 ·obtain⟨t,v,g,d⟩:=Y2 hok hin c;refine(AhW p t aa acap args fuel v g w hbl hn hok hra hin d.good d.okO d.init c d.big).mono λe w' h=>?_
  rw[d.eq,c];exact h.a
 ·exact(Ac7 p aa acap args.length fuel w hbl hn hok c).mono λe w' h=>.bad c h
def Al3 (s:Ms):Value:=.agg #[.int .i64 (s.out.getD (0,0)).1,.int .i64 (s.out.getD (0,0)).2]
theorem KP (p:PgV)(aa:Option Addr)(acap:Nat)(args:List Int)(fuel:Int)(w:World)(hbl:p.body.length<=1000)(hn:args.length<=1000)(hok:p.ok w)(hra:Rd w aa (Qi args))(hin:∀a∈args,InI a):
 Calls Tryz.prog 22 #[.agg p.cells,.slice aa args.length acap,.int .i64 fuel] w λe w'=>e=.returned (Al3 (QG p args fuel))/\Below w.heap.size w w':=by
 by_cases hc:Q7 p args.length fuel=0
 ·have ec:(Q7 p args.length fuel==0)=true:=by simpa using hc
  have Hc:=Lh hc;clear hc ec;have y:=Lh hok;have u:=Lh hbl;have Hn:=Lh hn;have z:=Lh hra;have x:=Lh hin;clear hok hbl hn hra hin;go_enter Tryz.func22,Tryz.ntmps22
  go_wp2_with (refine Qq _ _ rfl ?_)
  refine Stop.to ?_;refine Qe rfl 25 _ rfl p.cells rfl ?_;intro G w1 hG o h;replace h:=(Below.refl w.heap.size w).trans (h.mono hG);clear hG;go_wp2_with (refine QH _ rfl ?_)
  refine Stop.to ?_;refine Qj rfl 52 rfl _ _ Vy rfl ?_;intro RB w2 d rB l;replace o:=o.below (l.mono d) o.lt;have m:w.heap.size<=RB:=Ld h.size d;replace l:=h.trans ((l.mono d).mono h.size);have R1:=Lh o;have g:=Lh rB;have i:=Lh l;clear o h l rB d;go_wp2_with (refine wpList_load_row rfl 25 _ rfl G rfl 25 p.cells (0,0) _ R1.out Tryz.underlying25 rfl (by kernel_rfl) ?_)
  refine(AkE p aa acap args fuel w2 u.out Hn.out (y.out.go i.out) (z.out.go i.out) x.out).mono ?_;rintro e w3 ⟨A,ac,rfl,_,_,_,_,b3⟩;obtain⟨s,hs⟩:∃s,QG p args fuel=s:=⟨_,rfl⟩;have Hs:=Lh hs;rw[hs];have c:=Lh (g.out.below b3 g.out.lt);have t:=Lh (i.out.trans (b3.mono i.out.size));clear b3 R1 g i hs;go_wp2_with (refine QH _ rfl ?_)
  refine Stop.to ?_;refine Qj rfl 114 rfl _ _ Kd rfl ?_;intro T w4 q rT b4;have k:=Lh (c.out.below (b4.mono q) c.out.lt);have B4:=Lh (t.out.trans ((b4.mono q).mono t.out.size));have ae:RB<T:=Lg c.out.lt q;have ad:w.heap.size<=T:=by omega
  clear c t b4 q;go_wp2_with (refine Qs _ _ _ rfl ?_)
  refine Stop.to ?_;refine Qk rfl 114 _ _ rfl T #[.int .i64 (s.out.getD (0,0)).1,.int .i64 (s.out.getD (0,0)).2,.int .i64 (s.steps:Int),.slice A s.evs.length ac] rfl rfl 114 _ rT (by kernel_rfl) rfl (XE _ _ _ rfl) ?_;intro w5 r5 o5;have ab:=Lh (k.out.only o5 (by omega));have B5:=Lh (Qp B4.out o5 ad);have R5:=Lh r5;clear k B4 r5 o5 rT;rw[Hc.out]
  go_wp2_with (first
   | (refine QT rfl 52 _ rfl ⟨T,0,none⟩ rfl [.int .i64 (s.out.getD (0,0)).1,.int .i64 (s.out.getD (0,0)).2] _ (R5.out.from_ 0 (λj v n=>by match j,n with|0,n=>injection n with n;subst n;rfl|1,n=>injection n with n;subst n;rfl|j+2,n=>cases n)) Tryz.underlying52 rfl (by kernel_rfl) ?_)
   | (refine Qs _ _ _ rfl ?_))
  refine Stop.to ?_;refine Qk rfl 52 _ _ rfl RB #[.int .i64 (s.out.getD (0,0)).1,.int .i64 (s.out.getD (0,0)).2] rfl rfl 52 _ ab.out (by kernel_rfl) rfl (by simp[Value.oneCell']) ?_;intro W9 r9 o9;go_wp2_with fail
  refine bodyPost_ret (results_cell_row Tryz.results22 _ _ RB 52 _ (0,0) _ rfl r9 Tryz.underlying52 rfl (by kernel_rfl)) rfl ?_;exact⟨by rw[Hs.out];rfl,Qp B5.out o9 m⟩
 ·have ec:(Q7 p args.length fuel==0)=false:=by simpa using hc
  have Hz:=Lh (Y3 hc);clear hc;have y:=Lh hok;have u:=Lh hbl;have Hn:=Lh hn;have z:=Lh hra;have x:=Lh hin;clear hok hbl hn hra hin;go_enter Tryz.func22,Tryz.ntmps22
  go_wp2_with (refine Qq _ _ rfl ?_)
  refine Stop.to ?_;refine Qe rfl 25 _ rfl p.cells rfl ?_;intro G w1 hG o h;replace h:=(Below.refl w.heap.size w).trans (h.mono hG);clear hG;go_wp2_with (refine QH _ rfl ?_)
  refine Stop.to ?_;refine Qj rfl 52 rfl _ _ Vy rfl ?_;intro RB w2 d rB l;replace o:=o.below (l.mono d) o.lt;have m:w.heap.size<=RB:=Ld h.size d;replace l:=h.trans ((l.mono d).mono h.size);have R1:=Lh o;have g:=Lh rB;have i:=Lh l;clear o h l rB d;go_wp2_with (refine wpList_load_row rfl 25 _ rfl G rfl 25 p.cells (0,0) _ R1.out Tryz.underlying25 rfl (by kernel_rfl) ?_)
  refine(AkE p aa acap args fuel w2 u.out Hn.out (y.out.go i.out) (z.out.go i.out) x.out).mono ?_;rintro e w3 ⟨A,ac,rfl,_,_,_,_,b3⟩;obtain⟨s,hs⟩:∃s,QG p args fuel=s:=⟨_,rfl⟩;have Hs:=Lh hs;rw[hs];have c:=Lh (g.out.below b3 g.out.lt);have t:=Lh (i.out.trans (b3.mono i.out.size));clear b3 R1 g i hs;go_wp2_with (refine QH _ rfl ?_)
  refine Stop.to ?_;refine Qj rfl 114 rfl _ _ Kd rfl ?_;intro T w4 q rT b4;have k:=Lh (c.out.below (b4.mono q) c.out.lt);have B4:=Lh (t.out.trans ((b4.mono q).mono t.out.size));have ae:RB<T:=Lg c.out.lt q;have ad:w.heap.size<=T:=by omega
  clear c t b4 q;go_wp2_with (refine Qs _ _ _ rfl ?_)
  refine Stop.to ?_;refine Qk rfl 114 _ _ rfl T #[.int .i64 (s.out.getD (0,0)).1,.int .i64 (s.out.getD (0,0)).2,.int .i64 (s.steps:Int),.slice A s.evs.length ac] rfl rfl 114 _ rT (by kernel_rfl) rfl (XE _ _ _ rfl) ?_;intro w5 r5 o5;have ab:=Lh (k.out.only o5 (by omega));have B5:=Lh (Qp B4.out o5 ad);have R5:=Lh r5;clear k B4 r5 o5 rT;go_wp2_with (refine Qs _ _ _ rfl ?_)
  refine Stop.to ?_;refine Qk rfl 52 _ _ rfl RB #[.int .i64 0,.int .i64 0] rfl rfl 52 _ ab.out (by kernel_rfl) rfl (by simp[Value.oneCell']) ?_;intro W9 r9 o9;go_wp2_with fail
  refine bodyPost_ret (results_cell_row Tryz.results22 _ _ RB 52 _ (0,0) _ rfl r9 Tryz.underlying52 rfl (by kernel_rfl)) rfl ?_;exact⟨by rw[Hz.out];rfl,Qp B5.out o9 m⟩
structure RunB (s:Ms)(err:Int)(w w':World)(e:Ending):Prop where
 ex:∃A cap,e=.returned (.tuple #[.agg #[.int .i64 (s.out.getD (0,0)).1,.int .i64 (s.out.getD (0,0)).2,.int .i64 (s.steps:Int),.slice A s.evs.length cap],.int .i64 err])/\Rd w' A (s.evs.flatMap EvV.cells)/\s.evs.length<=cap/\cap<=maxLen/\(A=none->cap=0)/\(∀ad,A=some ad->w.heap.size<=ad.block)/\Below w.heap.size w w'
theorem RunR.b{fin:Mm}{w w':World}{e:Ending}(h:RunR fin w w' e):RunB fin.s 0 w w' e:=by
 obtain⟨ev,rfl,c,l⟩:=h.ex;obtain⟨A,d,rfl,g,i,j,k⟩:=Afi c;exact⟨A,d,rfl,g,i,j,k,λm e=>by subst e;exact QQ c rfl,l⟩
theorem Akd (k v k' v':Int):(!(k==k' && v==v'))=true<->¬(k'=k/\v'=v):=by
 constructor
 ·rintro h ⟨rfl,rfl⟩;simp at h
 ·intro h;by_cases c:k=k'
  ·by_cases d:v=v'
   ·exact absurd ⟨c.symm,d.symm⟩ h
   ·simp[d]
  ·simp[c]
end Go.Proofs.YtkoikjnlpifbjaaGreat
