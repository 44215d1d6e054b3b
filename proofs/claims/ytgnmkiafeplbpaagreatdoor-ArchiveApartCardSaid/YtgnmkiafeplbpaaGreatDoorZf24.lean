/- Lemmas for ArAll. -/
import Derived.Test.YtgnmkiafeplbpaaGreatDoorZf1
import Derived.Test.YtgnmkiafeplbpaaGreatDoorZf23
import Derived.Test.YtgnmkiafeplbpaaGreatDoorZf2
import Derived.Test.YtgnmkiafeplbpaaGreatDoorZf7
set_option linter.unusedVariables false
set_option linter.unusedSimpArgs false
set_option maxRecDepth 100000
set_option maxHeartbeats 16000000
namespace Go.Proofs.YtgnmkiafeplbpaaGreatDoor
open Go.RowKit Go.Deep
structure RdEff (g:Nat)(w w':World):Prop where
 os:w'.os=w.os
 tape:w'.tape=w.tape
 output:w'.output=w.output
 size:w.heap.size<=w'.heap.size
 block:∀k,k<w.heap.size->k≠g->w'.heap[k]? =w.heap[k]?
theorem RdEff.of_below{g:Nat}{w w':World}(b:Below w.heap.size w w'):RdEff g w w':=⟨b.os,b.tape,b.output,b.size,λk hk _=>b.block k hk⟩
theorem RdEff.of_only{g:Nat}{w w':World}(o:Only g w w'):RdEff g w w':=⟨o.os,o.tape,o.output,LI o.size.symm,λk _ hg=>o.block k hg⟩
theorem RdEff.refl (g:Nat)(w:World):RdEff g w w:=⟨rfl,rfl,rfl,Nat.le_refl _,λ_ _ _=>rfl⟩
theorem RdEff.trans{g:Nat}{a b c:World}(h:RdEff g a b)(k:RdEff g b c):RdEff g a c:=
 ⟨k.os.trans h.os,k.tape.trans h.tape,k.output.trans h.output,Lj h.size k.size,λi hi hg=>(k.block i (Lg hi h.size) hg).trans (h.block i hi hg)⟩
theorem RdEff.below{g B:Nat}{w w':World}(h:RdEff g w w')(hB:B<=g)(hs:B<=w.heap.size):Below B w w':=
 ⟨h.os,h.tape,h.output,h.size,λk hk=>h.block k (by omega) (by omega)⟩
theorem RdEff.row{g k:Nat}{w w':World}{t:TypeId}{cs:Array Value}(h:RdEff g w w')(hr:Row w k t cs)(hk:k≠g):Row w' k t cs:=(h.block k hr.lt hk).trans hr
def QZ (s:List UInt8)(pl:Nat)(most:Int):Int×Nat×Nat:=(if (QL (s.drop pl)).1=0/\most<((QL (s.drop pl)).2.1:Int)then 4 else(QL (s.drop pl)).1,pl+(QL (s.drop pl)).2.2,(QL (s.drop pl)).2.1)
theorem Ab5 (g:Nat)(s:List UInt8)(r:Rs)(most:Int)(hp:r.pl<=s.length)(hs:s.length<=1000000)(h0:0<=most)(h1:most<=1048576)(w:World)(h:RdO w g s r):
 Calls Tryz.prog 205 #[.pointer (some ⟨g,0,none⟩),.int .i64 most] w λe w'=>e=.returned (.tuple #[.int .i64 (wrap64 ((QZ s r.pl most).2.2:Int)),.int .i64 ((QZ s r.pl most).2.1:Int),.int .i64 (QZ s r.pl most).1])/\RdO w' g s r/\Below w.heap.size w w':=by
 have t:=Lv (UD s r.pl hp hs);have o:=Yf (s.drop r.pl);unfold QZ;obtain⟨⟨j,n,k⟩,l⟩:∃p,p=QL (s.drop r.pl):=⟨_,rfl⟩;rw[<-l]at o t|-;clear l hp hs;have z:=Lv o;clear o;have hw:IntKind.u64.wrap most=most:=by rw[IntKind.wrap_u64];omega
 go_enter Tryz.func205,Tryz.ntmps205
 go_wp2_with fail
 obtain⟨S,a⟩:∃S,S=(λW=>RdO W g s r/\Below w.heap.size w W):=⟨_,rfl⟩;have aa:St S:=by rw[a];infer_instance
 have d:Hid (∀W,S W->RdO W g s r):=by show ∀W,_;rw[a];exact λW h=>h.1
 have m:Hid (∀W,S W->Below w.heap.size w W):=by show ∀W,_;rw[a];exact λW h=>h.2
 have b:S w:=by rw[a];exact⟨h,Below.refl _ _⟩
 clear a h;refine QG S (by kernel_rfl) (by kernel_rfl) (St.drew b) ?_;clear b
 iterate 4 (refine Qe rfl ?_ (λW c=>?_) ?_;rotate_left;(focus(go_simp;exact rfl));simp only[Act.put,Qa,Qb,Qc])
 (refine Qe rfl ?_ (λW c=>?_) ?_;rotate_left;(focus(have c0:=Row.cellv (d.out W c) (i:=0) (v:=.string ⟨s.toArray⟩) rfl;go_simp;exact rfl));simp only[Act.put,Qa,Qb,Qc])
 iterate 4 (refine Qe rfl ?_ (λW c=>?_) ?_;rotate_left;(focus(go_simp;exact rfl));simp only[Act.put,Qa,Qb,Qc])
 (refine Qe rfl ?_ (λW c=>?_) ?_;rotate_left;(focus(have c0:=Row.cellv (d.out W c) (i:=1) (v:=.int .i64 (r.pl:Int)) rfl;go_simp;exact rfl));simp only[Act.put,Qa,Qb,Qc]);(refine QA rfl 146 _ (λW=>by(go_simp;try rfl)) (.tuple #[.int .u64 (n:Int),.int .i64 ((r.pl+k:Nat):Int),.int .i64 j]) (λW c=>(t.out W).mono λe W' h=>⟨h.1,by rw[<-h.2];exact Below.refl _ _⟩) ?_;simp only[Act.put,Qa,Qb,Qc])
 iterate 7 (refine Qe rfl ?_ (λW c=>?_) ?_;rotate_left;(focus(go_simp;exact rfl));simp only[Act.put,Qa,Qb,Qc])
 refine QE λW b=>?_
 by_cases u:j=0
 ·subst u;have Hn:Hid (n<18446744073709551616):=Lv (by rcases z.out with⟨_,h⟩|⟨h,_⟩;exact h;exact absurd rfl h);by_cases y:most<(n:Int)
  ·have x:(if (0:Int)=0/\most<(n:Int)then(4:Int)else 0)=4:=if_pos ⟨rfl,y⟩;go_wp2_with fail
   go_ret3
   exact⟨rfl,d.out _ b,m.out _ b⟩
  ·have x:(if (0:Int)=0/\most<(n:Int)then(4:Int)else 0)=0:=if_neg (λh=>y h.2);have q:wrap64 (n:Int)=(n:Int):=IntWalk.wrap64_in _ (by omega);go_wp2_with fail
   go_ret3
   exact⟨by first|rfl| (rw[q];rfl),d.out _ b,m.out _ b⟩
 ·have x:(if j=0/\most<(n:Int)then(4:Int)else j)=j:=if_neg (λh=>u h.1);go_wp2_with fail
  go_ret3
  exact⟨rfl,d.out _ b,m.out _ b⟩
def Qo (s:List UInt8)(r:Rs)(most:Int):Int×Rs:=r.step ((QZ s r.pl most).1,(QZ s r.pl most).2.1,((QZ s r.pl most).2.2:Int)) 0
theorem Y6{s:List UInt8}{pl:Nat}{most:Int}(h:(QZ s pl most).1=0):((QZ s pl most).2.2:Int)<=most:=by
 unfold QZ at h|-;simp only at h|-;by_cases a:(QL (s.drop pl)).1=0/\most<((QL (s.drop pl)).2.1:Int)
 ·rw[if_pos a]at h;exact absurd h (by decide)
 ·rw[if_neg a]at h;exact Int.not_lt.1 (λb=>a ⟨h,b⟩)
theorem Aip{r:Rs}{e:Int}{to:Nat}{x:Int}(h:e=0->wrap64 x=x):r.step (e,to,wrap64 x) 0=r.step (e,to,x) 0:=by
 unfold Rs.step Rs.move;dsimp only;by_cases a:r.er=0
 ·by_cases b:e=0
  ·rw[if_pos a,if_pos b,h b]
  ·rw[if_pos a,if_neg b,if_neg b,if_neg b]
 ·rw[if_neg a,if_neg a,if_neg a]
theorem Zi (g:Nat)(s:List UInt8)(r:Rs)(most:Int)(hp:r.pl<=s.length)(hs:s.length<=1000000)(h0:0<=most)(h1:most<=1048576)(w:World)(h:RdO w g s r):
 Calls Tryz.prog 148 #[.pointer (some ⟨g,0,none⟩),.int .i64 most] w λe w'=>e=.returned (.int .i64 (Qo s r most).1)/\RdO w' g s (Qo s r most).2/\RdEff g w w':=by
 have c:=Lv (Ab5 g s r most hp hs h0 h1 w h);have a:Hid (r.step ((QZ s r.pl most).1,(QZ s r.pl most).2.1,wrap64 ((QZ s r.pl most).2.2:Int)) 0=Qo s r most):=Lv (Aip (λi=>IntWalk.wrap64_in _ (by have:=Y6 i;omega)));clear hp hs h0 h1 h;go_enter Tryz.func148,Tryz.ntmps148
 go_wp2_with fail
 refine c.out.mono ?_;rintro e k ⟨rfl,h,d⟩;go_wp2_with fail
 refine(AcX g s r _ _ _ k h).mono ?_;rintro e l ⟨rfl,b,j⟩;go_wp2_with fail
 go_ret
 rw[a.out]at b;exact⟨by rw[<-a.out];rfl,b,(RdEff.of_below d).trans (RdEff.of_only j)⟩
def JH (s:List UInt8)(r:Rs):Int×Rs:=r.step ((QL (s.drop r.pl)).1,r.pl+(QL (s.drop r.pl)).2.2,EV (QL (s.drop r.pl)).2.1) 0
theorem Vm (g:Nat)(s:List UInt8)(r:Rs)(hp:r.pl<=s.length)(hs:s.length<=1000000)(w:World)(h:RdO w g s r):
 Calls Tryz.prog 161 #[.pointer (some ⟨g,0,none⟩)] w λe w'=>e=.returned (.int .i64 (JH s r).1)/\RdO w' g s (JH s r).2/\RdEff g w w':=by
 have l:=Lv (Agq s r.pl hp hs);clear hp hs;unfold JH;obtain⟨⟨q,n,k⟩,d⟩:∃p,p=QL (s.drop r.pl):=⟨_,rfl⟩;rw[<-d]at l|-;clear d;go_enter Tryz.func161,Tryz.ntmps161
 go_wp2_with fail
 obtain⟨S,a⟩:∃S,S=(λW=>RdO W g s r/\Below w.heap.size w W):=⟨_,rfl⟩;have x:St S:=by rw[a];infer_instance
 have j:Hid (∀W,S W->RdO W g s r):=by show ∀W,_;rw[a];exact λW h=>h.1
 have m:Hid (∀W,S W->Below w.heap.size w W):=by show ∀W,_;rw[a];exact λW h=>h.2
 have c:S w:=by rw[a];exact⟨h,Below.refl _ _⟩
 clear a h;refine QG S (by kernel_rfl) (by kernel_rfl) (St.drew c) ?_;clear c
 iterate 4 (refine Qe rfl ?_ (λW b=>?_) ?_;rotate_left;(focus(go_simp;exact rfl));simp only[Act.put,Qa,Qb,Qc])
 (refine Qe rfl ?_ (λW b=>?_) ?_;rotate_left;(focus(have o:=Row.cellv (j.out W b) (i:=0) (v:=.string ⟨s.toArray⟩) rfl;go_simp;exact rfl));simp only[Act.put,Qa,Qb,Qc])
 iterate 4 (refine Qe rfl ?_ (λW b=>?_) ?_;rotate_left;(focus(go_simp;exact rfl));simp only[Act.put,Qa,Qb,Qc])
 (refine Qe rfl ?_ (λW b=>?_) ?_;rotate_left;(focus(have o:=Row.cellv (j.out W b) (i:=1) (v:=.int .i64 (r.pl:Int)) rfl;go_simp;exact rfl));simp only[Act.put,Qa,Qb,Qc]);(refine QA rfl 212 _ (λW=>by(go_simp;try rfl)) (.tuple #[.int .i64 (EV n),.int .i64 ((r.pl+k:Nat):Int),.int .i64 q]) (λW b=>(l.out W).mono λe y h=>⟨h.1,by rw[<-h.2];exact Below.refl _ _⟩) ?_;simp only[Act.put,Qa,Qb,Qc])
 iterate 7 (refine Qe rfl ?_ (λW b=>?_) ?_;rotate_left;(focus(go_simp;exact rfl));simp only[Act.put,Qa,Qb,Qc])
 refine QE λW c=>?_
 go_wp2_with fail
 refine(AcX g s r _ (r.pl+k) _ W (j.out _ c)).mono ?_;rintro e z ⟨rfl,t,u⟩;go_wp2_with fail
 go_ret
 exact⟨rfl,t,(RdEff.of_below (m.out _ c)).trans (RdEff.of_only u)⟩
def J1 (s:List UInt8)(pl:Nat)(n:Nat):Int×Nat×List UInt8:=if s.length<pl+n then(2,pl,[])else(0,pl+n,(s.drop pl).take n)
theorem AcL (g:Nat)(s:List UInt8)(r:Rs)(pl n:Nat)(hp:pl<=s.length)(hs:s.length<=1000000)(hn:(n:Int)<=1048576)(w:World)(h:RdO w g s r):
 Calls Tryz.prog 209 #[.pointer (some ⟨g,0,none⟩),.int .i64 (pl:Int),.int .i64 (n:Int)] w λe w'=>e=.returned (.tuple #[.string ⟨(J1 s pl n).2.2.toArray⟩,.int .i64 ((J1 s pl n).2.1:Int),.int .i64 (J1 s pl n).1])/\w=w':=by
 have t:=Row.cellv h (i:=0) (v:=.string ⟨s.toArray⟩) rfl;have q:(⟨s.toArray⟩:ByteArray).size=s.length:=by simp[ByteArray.size]
 have l:(pl:Int)<=(s.length:Int):=by omega
 have p:(s.length:Int)<=1000000:=by omega
 by_cases b:s.length<pl+n
 ·rw[J1,if_pos b];have c:(s.length:Int)-(pl:Int)<(n:Int):=by omega
  clear h b hs hp;go_enter Tryz.func209,Tryz.ntmps209
  go_wp2_with fail
  go_ret3
  exact⟨rfl,rfl⟩
 ·rw[J1,if_neg b];have c:¬(s.length:Int)-(pl:Int)<(n:Int):=by omega
  have a:=KV s pl (pl+n);rw[show pl+n-pl=n by omega]at a;obtain⟨m,d⟩:∃m:Nat,m=pl+n:=⟨_,rfl⟩;rw[<-d]at a|-;have k:(pl:Int)+(n:Int)=(m:Int):=by omega
  have j:(m:Int)<=(s.length:Int):=by omega
  have o:(pl:Int)<=(m:Int):=by omega
  clear h b hs hp d;go_enter Tryz.func209,Tryz.ntmps209
  go_wp2_with fail
  go_ret3
  exact⟨rfl,rfl⟩
def Z4 (s:List UInt8)(r:Rs)(n:Nat):List UInt8×Rs:=r.step (J1 s r.pl n) []
theorem Vr (g:Nat)(s:List UInt8)(r:Rs)(n:Nat)(hp:r.pl<=s.length)(hs:s.length<=1000000)(hn:(n:Int)<=1048576)(w:World)(h:RdO w g s r):
 Calls Tryz.prog 150 #[.pointer (some ⟨g,0,none⟩),.int .i64 (n:Int)] w λe w'=>e=.returned (.string ⟨(Z4 s r n).1.toArray⟩)/\RdO w' g s (Z4 s r n).2/\RdEff g w w':=by
 have b:=Lv (AcL g s r r.pl n hp hs hn w h);have m:=Row.cellv h (i:=1) (v:=.int .i64 (r.pl:Int)) rfl;have k:¬(n:Int)<0:=by omega
 have c:=Lv h;clear hp hs h hn;unfold Z4;obtain⟨⟨d,to,x⟩,a⟩:∃p,p=J1 s r.pl n:=⟨_,rfl⟩;rw[<-a]at b|-;clear a;go_enter Tryz.func150,Tryz.ntmps150
 go_wp2_with fail
 refine b.out.mono ?_;rintro e o ⟨rfl,rfl⟩;go_wp2_with fail
 refine(Em g s r x to d w c.out).mono ?_;rintro e q ⟨rfl,j,l⟩;go_wp2_with fail
 go_ret
 exact⟨rfl,j,RdEff.of_only l⟩
def QR (s:List UInt8)(r:Rs):Nat×Rs:=(match (Z4 s r 1).1 with|[]=>0|b::_=>b.toNat,(Z4 s r 1).2)
theorem Amk{x:List UInt8}{b:UInt8}(W:World):(Instr.index 9 (.string ⟨(b::x).toArray⟩) (.int .i64 0)).run Tryz.prog W=.ok (.int .u8 (b.toNat:Int)) W:=Adh (s:=b::x) (i:=0) rfl W
theorem KX (g:Nat)(s:List UInt8)(r:Rs)(hp:r.pl<=s.length)(hs:s.length<=1000000)(w:World)(h:RdO w g s r):
 Calls Tryz.prog 143 #[.pointer (some ⟨g,0,none⟩)] w λe w'=>e=.returned (.int .u8 ((QR s r).1:Int))/\RdO w' g s (QR s r).2/\RdEff g w w':=by
 have c:=Lv (Vr g s r 1 hp hs (by decide) w h);clear hp hs h;unfold QR;obtain⟨⟨x,m⟩,a⟩:∃p,p=Z4 s r 1:=⟨_,rfl⟩;rw[<-a]at c|-;clear a;cases x with
 |nil=>
  go_enter Tryz.func143,Tryz.ntmps143
  go_wp2_with fail
  refine c.out.mono ?_;rintro e l ⟨rfl,i,d⟩;go_wp2_with fail
  go_ret
  exact⟨rfl,i,d⟩
 |cons b x=>
  have k:¬(⟨(b::x).toArray⟩:ByteArray)=⟨#[]⟩:=λe=>by injection e with e;simp at e
  have j:=Amk (x:=x) (b:=b);go_enter Tryz.func143,Tryz.ntmps143
  go_wp2_with fail
  refine c.out.mono ?_;rintro e l ⟨rfl,i,d⟩;go_wp2_with fail
  go_ret
  exact⟨rfl,i,d⟩
def JI (s:List UInt8)(r:Rs)(most:Int):List UInt8×Rs:=
 if (QZ s r.pl most).1=0 then r.step (J1 s (QZ s r.pl most).2.1 (QZ s r.pl most).2.2) []else r.step ((QZ s r.pl most).1,(QZ s r.pl most).2.1,[]) []
theorem Y7{s:List UInt8}{pl:Nat}(most:Int)(h:pl<=s.length):(QZ s pl most).2.1<=s.length:=by
 unfold QZ;have:=Aef (s.drop pl);simp only[LN]at this|-;omega
theorem Aig (g:Nat)(s:List UInt8)(r:Rs)(most:Int)(hp:r.pl<=s.length)(hs:s.length<=1000000)(h0:0<=most)(h1:most<=1048576)(w:World)(h:RdO w g s r):
 Calls Tryz.prog 229 #[.pointer (some ⟨g,0,none⟩),.int .i64 most] w λe w'=>e=.returned (.string ⟨(JI s r most).1.toArray⟩)/\RdO w' g s (JI s r most).2/\RdEff g w w':=by
 have l:=Lv (Ab5 g s r most hp hs h0 h1 w h);have c:=Lv (Y7 most hp);have a:=Lv (λh=>Y6 (s:=s) (pl:=r.pl) (most:=most) h);have Hs:=Lv hs;have H1:=Lv h1;clear hp hs h h1;unfold JI;obtain⟨⟨y,to,n⟩,d⟩:∃p,p=QZ s r.pl most:=⟨_,rfl⟩;rw[<-d]at l c a|-;clear d;by_cases z:y=0
 ·subst z;have i:(n:Int)<=most:=a.out rfl;have b:(n:Int)<=1048576:=Int.le_trans i H1.out;have k:wrap64 (n:Int)=(n:Int):=IntWalk.wrap64_in _ (by omega);rw[if_pos rfl];rw[k]at l;obtain⟨⟨e2,u,x⟩,j⟩:∃p,p=J1 s to n:=⟨_,rfl⟩;have v:=Lv (λw=>AcL g s r to n c.out Hs.out b w);rw[<-j]at v|-;clear j k i b a;go_enter Tryz.func229,Tryz.ntmps229
  go_wp2_with fail
  refine l.out.mono ?_;rintro e m ⟨rfl,h1,o⟩;go_wp2_with fail
  refine(v.out m h1).mono ?_;rintro e w2 ⟨rfl,rfl⟩;go_wp2_with fail
  refine(Em g s r x u e2 m h1).mono ?_;rintro e w2 ⟨rfl,q,t⟩;go_wp2_with fail
  go_ret
  exact⟨rfl,q,(RdEff.of_below o).trans (RdEff.of_only t)⟩
 ·rw[if_neg z];clear a;go_enter Tryz.func229,Tryz.ntmps229
  go_wp2_with fail
  refine l.out.mono ?_;rintro e m ⟨rfl,h1,o⟩;go_wp2_with fail
  refine(Em g s r [] to y m h1).mono ?_;rintro e w2 ⟨rfl,q,t⟩;go_wp2_with fail
  go_ret
  exact⟨rfl,q,(RdEff.of_below o).trans (RdEff.of_only t)⟩
def ZB (s:List UInt8)(r:Rs):Int:=if r.er=0/\r.pl<s.length then 5 else r.er
theorem Aa8 (g:Nat)(s:List UInt8)(r:Rs)(w:World)(h:RdO w g s r):
 Calls Tryz.prog 179 #[.pointer (some ⟨g,0,none⟩)] w λe w'=>e=.returned (.int .i64 (ZB s r))/\Below w.heap.size w w'/\RdO w' g s r:=by
 have k:(⟨s.toArray⟩:ByteArray).size=s.length:=by simp[ByteArray.size]
 obtain⟨a,c⟩:=r;have l:=Row.cellv h (i:=0) (v:=.string ⟨s.toArray⟩) rfl;have m:=Row.cellv h (i:=1) (v:=.int .i64 (a:Int)) rfl;have n:=Row.cellv h (i:=2) (v:=.int .i64 c) rfl;unfold ZB;by_cases d:c=0
 ·subst d;by_cases j:a<s.length
  ·have b:(a:Int)<(s.length:Int):=by omega
   rw[if_pos ⟨rfl,j⟩];go_enter Tryz.func179,Tryz.ntmps179
   go_wp2_with fail
   go_quiet (fail)
   go_wp2_with fail
   go_ret
   exact⟨rfl,Jq (Below.refl _ _) _,h⟩
  ·have b:¬(a:Int)<(s.length:Int):=by omega
   rw[if_neg (λh=>j h.2)];go_enter Tryz.func179,Tryz.ntmps179
   go_wp2_with fail
   go_quiet (fail)
   go_wp2_with fail
   go_ret
   exact⟨rfl,Jq (Below.refl _ _) _,h⟩
 ·rw[if_neg (λh=>d h.1)];go_enter Tryz.func179,Tryz.ntmps179
  go_wp2_with fail
  go_quiet (fail)
  go_wp2_with fail
  go_ret
  exact⟨rfl,Jq (Below.refl _ _) _,h⟩
theorem Abv (s:List UInt8)(w:World):
 Calls Tryz.prog 141 #[.string ⟨s.toArray⟩] w λe w'=>e=.returned (.pointer (some ⟨w.heap.size,0,none⟩))/\RdO w' w.heap.size s ⟨0,0⟩/\Below w.heap.size w w':=by
 go_enter Tryz.func141,Tryz.ntmps141
 go_wp2
 go_ret
 exact⟨rfl,Row.new _ _ _,(Below.refl _ _).alloc (Nat.le_refl _) _⟩
end Go.Proofs.YtgnmkiafeplbpaaGreatDoor
namespace Go.Proofs.YtgnmkiafeplbpaaGreatDoor
open Go.RowKit
def AhE (n:Int):Bool:=decide (n<0) || decide (200<=n)
def Zg (d:Dl):Bool:=decide (d.path.length<=30) && !(d.path.any AhE) && decide (1<=d.op) && decide (d.op<=7)
def Z9 (l:List Int):List UInt8:=l.flatMap λn=>QC n.toNat
def Q9 (d:Dl):List UInt8:=QC d.path.length++Z9 d.path++[UInt8.ofNat d.op.toNat]++zz d.n
def Us (d:Dl):List UInt8×Int:=if Zg d=true then(Q9 d,0)else([],17)
theorem rightDl_iff{d:Dl}:Zg d=true<->d.path.length<=30/\(∀n∈d.path,0<=n/\n<200)/\1<=d.op/\d.op<=7:=by
 unfold Zg AhE;simp only[LK,decide_eq_true_eq,N5,Nq,Bool.or_eq_true,not_or,Int.not_lt,Int.not_le,and_assoc]
theorem UJ (l:List Int):(Z9 l).length<=10*l.length:=by
 induction l with
 |nil=>simp[Z9]
 |cons a l ih=>
  have b:=Qz a.toNat;simp only[Z9,LF,La,Le]at ih|-;omega
theorem Aa0 (l:List Int)(n:Int):Z9 (l++[n])=Z9 l++QC n.toNat:=by simp[Z9]
theorem VU{d:Dl}(h:Zg d=true):(Q9 d).length<=321:=by
 obtain⟨a,_⟩:=rightDl_iff.1 h;have:=UJ d.path;have b:=Qz d.path.length;have c:=Et d.n;simp only[Q9,La,Le,Ll];omega
def KT (z:Int)(s:List UInt8)(r:Rs)(most:Int):Int×Rs:=r.step ((QZ s r.pl most).1,(QZ s r.pl most).2.1,((QZ s r.pl most).2.2:Int)) z
theorem QV (s:List UInt8)(r:Rs)(most:Int):Qo s r most=KT 0 s r most:=rfl
def Aj0 (z:Int)(s:List UInt8)(r:Rs):Int×Rs:=r.step ((QL (s.drop r.pl)).1,r.pl+(QL (s.drop r.pl)).2.2,EV (QL (s.drop r.pl)).2.1) z
theorem X5{α:Type}{r:Rs}(h:r.er=0)(to:Nat)(x z:α):r.step (0,to,x) z=(x,⟨to,0⟩):=by
 unfold Rs.step;simp only[AgI h];simp
theorem Q0{s a t:List UInt8}{pl:Nat}(h:s.drop pl=a++t):s.drop (pl+a.length)=t:=by
 rw[<-Nf,h,Nh];rfl
theorem Ze{z:Int}{s t:List UInt8}{pl n:Nat}{most:Int}(h:s.drop pl=QC n++t)(hn:(n:Int)<=most)(hn2:n<18446744073709551616):KT z s ⟨pl,0⟩ most=((n:Int),⟨pl+(QC n).length,0⟩):=by
 have e:QZ s pl most=(0,pl+(QC n).length,n):=by
  unfold QZ;rw[h,U2 n hn2 t];simp only[true_and];rw[if_neg (by omega)]
 unfold KT;dsimp only;rw[e];exact X5 rfl _ _ _
theorem Uj{z:Int}{s t:List UInt8}{pl:Nat}{n:Int}(h:s.drop pl=zz n++t)(hn:InI n):Aj0 z s ⟨pl,0⟩=(n,⟨pl+(zz n).length,0⟩):=by
 have e:QL (s.drop pl)=(0,Es n,(zz n).length):=by rw[h];exact U2 (Es n) (Ahd hn) t
 unfold Aj0;dsimp only;rw[e];dsimp only;rw[AlX hn];exact X5 rfl _ _ _
theorem UV{s t:List UInt8}{pl:Nat}{b:UInt8}(h:s.drop pl=b::t):s[pl]? =some b/\pl<s.length:=by
 have e:s[pl]? =some b:=by
  have:=congrArg (λl=>l[0]?) h;simpa[Ni]using this
 exact⟨e,(Lf.1 e).1⟩
theorem X2{s t:List UInt8}{pl:Nat}{b:UInt8}(h:s.drop pl=b::t):QR s ⟨pl,0⟩=(b.toNat,⟨pl+1,0⟩):=by
 obtain⟨a,c⟩:=UV h
 have e:Z4 s ⟨pl,0⟩ 1=([b],⟨pl+1,0⟩):=by
  unfold Z4 J1;dsimp only;rw[if_neg (by omega),h];exact X5 rfl _ _ _
 unfold QR;rw[e]
def ZQ (z most:Int)(s:List UInt8)(r:Rs):Nat->List Int×Rs
 |0=>([],r)
 |k+1=>((ZQ z most s r k).1++[(KT z s (ZQ z most s r k).2 most).1],(KT z s (ZQ z most s r k).2 most).2)
theorem AcH{z most:Int}{s t:List UInt8}{pl:Nat}{l:List Int}(h:s.drop pl=Z9 l++t)(hl:∀n∈l,0<=n/\n<200)(hm:200<=most):∀k,k<=l.length->ZQ z most s ⟨pl,0⟩ k=(l.take k,⟨pl+(Z9 (l.take k)).length,0⟩)
 |0,_=>by simp[ZQ,Z9]
 |k+1,hk=>by
  obtain⟨x,hx⟩:∃x,l[k]? =some x:=⟨_,Ld hk⟩
  have hxr:=hl x (Li hx)
  obtain⟨n,rfl⟩:=LA hxr.1
  have e:l=l.take k++((n:Int)::l.drop (k+1)):=by
   have b:l.drop k=(n:Int)::l.drop (k+1):=by rw[<-Ns hk,(Lf.1 hx).2]
   rw[<-b,LC]
  have c:s.drop (pl+(Z9 (l.take k)).length)=QC n++(Z9 (l.drop (k+1))++t):=by
   refine Q0 (a:=Z9 (l.take k)) ?_;rw[h]
   conv=>lhs;rw[e]
   simp[Z9]
  rw[ZQ,AcH h hl hm k (by omega)]
  dsimp only
  rw[Ze c (by omega) (by omega),ZE hx,Aa0,L0,La]
  simp only[Nn]
def Ak6 (s:List UInt8):Dl:=
 ⟨(ZQ 0 200 s (Qo s ⟨0,0⟩ 30).2 (Qo s ⟨0,0⟩ 30).1.toNat).1,((QR s (ZQ 0 200 s (Qo s ⟨0,0⟩ 30).2 (Qo s ⟨0,0⟩ 30).1.toNat).2).1:Int),(JH s (QR s (ZQ 0 200 s (Qo s ⟨0,0⟩ 30).2 (Qo s ⟨0,0⟩ 30).1.toNat).2).2).1⟩
theorem Am6{op:Int}(h1:1<=op)(h2:op<=7):((UInt8.ofNat op.toNat).toNat:Int)=op:=by
 have e:(UInt8.ofNat op.toNat).toNat=op.toNat % 256:=by simp
 rw[e];omega
theorem Aaz{d:Dl}(h:Zg d=true)(hn:InI d.n):Ak6 (Q9 d)=d:=by
 obtain⟨u,i,j,k⟩:=rightDl_iff.1 h;obtain⟨c,e,n⟩:=d;dsimp only at u i j k hn
 have p:Qo (Q9 ⟨c,e,n⟩) ⟨0,0⟩ 30=((c.length:Int),⟨(QC c.length).length,0⟩):=by
  rw[QV];have:=Ze (z:=0) (most:=30) (s:=Q9 ⟨c,e,n⟩) (pl:=0) (n:=c.length) (t:=Z9 c++[UInt8.ofNat e.toNat]++zz n) (by simp[Q9]) (by omega) (by omega);simpa using this
 have m:(Q9 ⟨c,e,n⟩).drop (QC c.length).length=Z9 c++([UInt8.ofNat e.toNat]++zz n):=by
  have:=Q0 (s:=Q9 ⟨c,e,n⟩) (pl:=0) (a:=QC c.length) (t:=Z9 c++([UInt8.ofNat e.toNat]++zz n)) (by simp[Q9]);simpa using this
 have g:=AcH (z:=0) (most:=200) m i (by omega) c.length (Nat.le_refl _);rw[LO]at g;have l:=Q0 m;have o:=X2 (b:=UInt8.ofNat e.toNat) (t:=zz n) l;have v:=Q0 (a:=[UInt8.ofNat e.toNat]) l
 have q:JH (Q9 ⟨c,e,n⟩) ⟨(QC c.length).length+(Z9 c).length+1,0⟩=(n,⟨(QC c.length).length+(Z9 c).length+1+(zz n).length,0⟩):=
  Uj (z:=0) (t:=[]) (by simpa using v) hn
 unfold Ak6;rw[p];dsimp only;rw[L0,g];dsimp only;rw[o];dsimp only;rw[q,Am6 j k]
open Classical in
noncomputable def Yp (s:List UInt8):Dl×Int:=if h:∃d,Zg d=true/\InI d.n/\Q9 d=s then(Classical.choose h,0)else(⟨[],0,0⟩,12)
theorem Acm{s:List UInt8}{d:Dl}(hd:InI d.n)(hr:Zg d=true)(he:Q9 d=s):Yp s=(d,0):=by
 have h:∃d,Zg d=true/\InI d.n/\Q9 d=s:=⟨d,hr,hd,he⟩;obtain⟨a,b,c⟩:=Classical.choose_spec h;have e:Classical.choose h=d:=by rw[<-Aaz a b,c, <-he,Aaz hr hd]
 unfold Yp;rw[dif_pos h,e]
theorem Ajp{s:List UInt8}{d:Dl}(hrd:∀d0,Zg d0=true->InI d0.n->Q9 d0=s->d=d0)(h:¬(Zg d=true/\Q9 d=s)):Yp s=(⟨[],0,0⟩,12):=by
 unfold Yp;rw[dif_neg];rintro⟨d0,a,c,b⟩;have:=hrd d0 a c b;subst this;exact h ⟨a,b⟩
theorem AhK{d:Dl}(h:Zg d=true)(hn:InI d.n):Yp (Q9 d)=(d,0):=Acm hn h rfl
def JY (m:Mt):Bool:=Zg m.d && Kd m
def VB (m:Mt):List UInt8:=QC m.test.toNat++([UInt8.ofNat m.kind.toNat]++(zz m.value++m.digest))
def YW (m:Mt):List UInt8:=if m.verdict=0 then []else VB m
def Zd (m:Mt):List UInt8:=QC (Q9 m.d).length++(Q9 m.d++(UInt8.ofNat m.verdict.toNat::YW m))
def ZC (l:List Mt):List UInt8:=QC l.length++l.flatMap Zd
def Kc (l:List Mt):List UInt8×Int:=if l.length<=2000/\l.all JY=true then(ZC l,0)else([],24)
theorem AeQ{m:Mt}(h:Kd m=true)(hv:m.verdict=0):m=⟨m.d,0, -1,0,0,[]⟩:=by
 unfold Kd at h;rw[if_pos hv,decide_eq_true_eq]at h;obtain⟨d,v,t,k,u,g⟩:=m;simp only at h hv|-;obtain⟨rfl,rfl,rfl,rfl⟩:=h;rw[hv]
theorem UM{m:Mt}(h:Kd m=true)(hv:¬m.verdict=0):(m.verdict=1\/m.verdict=2)/\0<=m.test/\m.test<=19/\m.digest.length=32/\0<=m.kind/\m.kind<=4:=by
 unfold Kd at h;rw[if_neg hv]at h;by_cases g:m.verdict=1
 ·rw[if_pos g,decide_eq_true_eq]at h;obtain⟨⟨a,b,c⟩,d,e,_⟩:=h;exact⟨.inl g,a,b,c,d,by omega⟩
 ·rw[if_neg g]at h;by_cases i:m.verdict=2
  ·rw[if_pos i,decide_eq_true_eq]at h;obtain⟨⟨a,b,c⟩,d,_⟩:=h;exact⟨.inr i,a,b,c,by omega,by omega⟩
  ·rw[if_neg i]at h;cases h
theorem fineM_iff{m:Mt}:JY m=true<->Zg m.d=true/\Kd m=true:=by unfold JY;rw[LK]
theorem Ait{m:Mt}(h:m.digest.length=32):(VB m).length<=53:=by
 have a:=Qz m.test.toNat;have b:=Et m.value;simp only[VB,La,Le,Ll,h];omega
theorem Aca{m:Mt}(h:JY m=true):(Zd m).length<=385:=by
 obtain⟨b,c⟩:=fineM_iff.1 h;have e:=VU b;have g:=Qz (Q9 m.d).length
 have i:(YW m).length<=53:=by
  unfold YW;by_cases a:m.verdict=0
  ·rw[if_pos a];simp
  ·rw[if_neg a];exact Ait (UM c a).2.2.2.1
 simp only[Zd,La,Le];omega
theorem AhB (m:Mt):0<(Zd m).length:=by simp only[Zd,La,Le];omega
theorem Ajm{l:List Mt}(h:l.all JY=true):(l.flatMap Zd).length<=385*l.length:=by
 induction l with
 |nil=>simp
 |cons a l ih=>
  rw[List.all_cons,LK]at h;have b:=ih h.2;have c:=Aca h.1;simp only[LF,La,Le];omega
theorem Aj2{s x t:List UInt8}{pl:Nat}(h:s.drop pl=x++t)(hx:0<x.length):Z4 s ⟨pl,0⟩ x.length=(x,⟨pl+x.length,0⟩):=by
 have a:pl+x.length<=s.length:=by
  have:=congrArg List.length h;simp only[LN,La]at this;omega
 unfold Z4 J1;dsimp only;rw[if_neg (by omega),h,Ng rfl];exact X5 rfl _ _ _
theorem Aib{s x t:List UInt8}{pl:Nat}{most:Int}(h:s.drop pl=QC x.length++(x++t))(hm:(x.length:Int)<=most)(h2:x.length<1000000):JI s ⟨pl,0⟩ most=(x,⟨pl+(QC x.length).length+x.length,0⟩):=by
 have e:QZ s pl most=(0,pl+(QC x.length).length,x.length):=by
  unfold QZ;rw[h,U2 x.length (by omega) _];simp only[true_and];rw[if_neg (by omega)]
 have a:=Q0 h
 have c:pl+(QC x.length).length+x.length<=s.length:=by
  have:=congrArg List.length h;have b:=AaR 9 x.length;simp only[LN,La]at this;have:0<(QC x.length).length:=by rw[QC];exact b
  omega
 unfold JI;dsimp only;rw[e];dsimp only;rw[if_pos rfl];unfold J1;rw[if_neg (by omega),a,Ng rfl];exact X5 rfl _ _ _
noncomputable def UE (s:List UInt8)(r:Rs):Mt×Rs:=
 let t:=JI s r 1048576
 let b:=QR s t.2
 let c:=Qo s b.2 20
 let k:=QR s c.2
 let v:=JH s k.2
 let g:=Z4 s v.2 32
 if b.1=0 then(⟨(Yp t.1).1,0, -1,0,0,[]⟩,b.2)else(⟨(Yp t.1).1,b.1,c.1,k.1,v.1,g.1⟩,g.2)
def OkM (m:Mt):Prop:=JY m=true/\InI m.d.n/\InI m.value
theorem VC{n:Int}(h1:0<=n)(h2:n<=255):((UInt8.ofNat n.toNat).toNat:Int)=n:=by
 have e:(UInt8.ofNat n.toNat).toNat=n.toNat % 256:=by simp
 rw[e];omega
theorem AjE{m:Mt}{s t:List UInt8}{pl:Nat}(hm:OkM m)(h:s.drop pl=Zd m++t):UE s ⟨pl,0⟩=(m,⟨pl+(Zd m).length,0⟩):=by
 obtain⟨hf,hn,hv⟩:=hm;obtain⟨q,u⟩:=fineM_iff.1 hf;have hl:=VU q;have y:s.drop pl=QC (Q9 m.d).length++(Q9 m.d++((UInt8.ofNat m.verdict.toNat::YW m)++t)):=by rw[h];simp[Zd]
 have eT:=Aib (most:=1048576) y (by omega) (by omega);have v:=Q0 (Q0 y);have eB:=X2 (b:=UInt8.ofNat m.verdict.toNat) (t:=YW m++t) v
 have i:pl+(Zd m).length=pl+(QC (Q9 m.d).length).length+(Q9 m.d).length+1+(YW m).length:=by
  simp only[Zd,La,Le];omega
 rw[i];unfold UE;rw[eT];dsimp only;rw[eB];dsimp only;rw[AhK q hn];by_cases e:m.verdict=0
 ·have e0:(UInt8.ofNat m.verdict.toNat).toNat=0:=by rw[e];rfl
  rw[if_pos e0];have l:YW m=[]:=if_pos e;have hm:=AeQ u e;rw[l];dsimp only[List.length_nil,Nat.add_zero];rw[<-hm]
 ·obtain⟨g1,g2,g3,p,g5,g6⟩:=UM u e;have e1:=VC (n:=m.verdict) (by omega) (by omega);rw[if_neg (by omega)];have l:YW m=VB m:=if_neg e;have w:=Q0 (a:=[UInt8.ofNat m.verdict.toNat]) (t:=YW m++t) v;rw[l]at w|-;obtain⟨o,c⟩:=LA g2
  have g:s.drop (pl+(QC (Q9 m.d).length).length+(Q9 m.d).length+1)=QC o++([UInt8.ofNat m.kind.toNat]++(zz m.value++(m.digest++t))):=by
   rw[show(1:Nat)=[UInt8.ofNat m.verdict.toNat].length from rfl,w];simp[VB,c]
  have eC:Qo s ⟨pl+(QC (Q9 m.d).length).length+(Q9 m.d).length+1,0⟩ 20=_:=(QV _ _ _).trans (Ze (z:=0) (most:=20) g (by omega) (by omega));have x:=Q0 g;have eK:=X2 (b:=UInt8.ofNat m.kind.toNat) x;have hV:=Q0 (a:=[UInt8.ofNat m.kind.toNat]) x;have eV:JH s ⟨pl+(QC (Q9 m.d).length).length+(Q9 m.d).length+1+(QC o).length+1,0⟩=_:=Uj (z:=0) hV hv;have hG:=Q0 hV;have j:=Aj2 hG (by omega);rw[p]at j;rw[eC];dsimp only;rw[eK];dsimp only;rw[eV];dsimp only;rw[show [UInt8.ofNat m.kind.toNat].length=1 from rfl]at j;rw[j,e1,VC g5 (by omega), <-c]
  have k:(VB m).length=(QC o).length+1+(zz m.value).length+32:=by
   simp only[VB,La,Le,Ll,p,c,L0];omega
  rw[k];simp only[Nn]
def XH (c:Rs->Bool)(one:Rs->Mt×Rs)(r:Rs):Nat->List Mt×Rs
 |0=>([],r)
 |k+1=>if c (XH c one r k).2=true then((XH c one r k).1++[(one (XH c one r k).2).1],(one (XH c one r k).2).2)else XH c one r k
theorem AeB{c:Rs->Bool}{one:Rs->Mt×Rs}{s t:List UInt8}{pl:Nat}{l:List Mt}(h:s.drop pl=l.flatMap Zd++t)(hl:∀m∈l,OkM m)(hc:∀pl,pl<s.length->c ⟨pl,0⟩=true)
 (h1:∀(m:Mt) (t:List UInt8) (pl:Nat),OkM m->s.drop pl=Zd m++t->one ⟨pl,0⟩=(m,⟨pl+(Zd m).length,0⟩)):∀k,k<=l.length->XH c one ⟨pl,0⟩ k=(l.take k,⟨pl+((l.take k).flatMap Zd).length,0⟩)
 |0,_=>by simp[XH]
 |k+1,hk=>by
  obtain⟨x,hx⟩:∃x,l[k]? =some x:=⟨_,Ld hk⟩
  have e:l=l.take k++(x::l.drop (k+1)):=by
   have d:l.drop k=x::l.drop (k+1):=by rw[<-Ns hk,(Lf.1 hx).2]
   rw[<-d,LC]
  have b:s.drop (pl+((l.take k).flatMap Zd).length)=Zd x++((l.drop (k+1)).flatMap Zd++t):=by
   refine Q0 (a:=(l.take k).flatMap Zd) ?_;rw[h]
   conv=>lhs;rw[e]
   simp
  have g:pl+((l.take k).flatMap Zd).length<s.length:=by
   have:=congrArg List.length b;have hx:=AhB x;simp only[LN,La]at this;omega
  rw[XH,AeB h hl hc h1 k (by omega)]
  dsimp only
  rw[if_pos (hc _ g),h1 x _ _ (hl x (Li hx)) b,ZE hx]
  dsimp only
  rw[LM,La]
  simp[Nn]
noncomputable def ZA (s:List UInt8):List Mt:=(XH (λr=>decide (ZB s r=5)) (UE s) (Qo s ⟨0,0⟩ 2000).2 (Qo s ⟨0,0⟩ 2000).1.toNat).1
def AdH (l:List Mt):Prop:=l.length<=2000/\∀m∈l,OkM m
theorem Ad6 (l:List Mt):(ZC l).drop (QC l.length).length=l.flatMap Zd++[]:=by
 rw[ZC,Nh rfl,LT]
theorem XX{l:List Mt}(h:AdH l):ZA (ZC l)=l:=by
 have g:=h.1;have a:Qo (ZC l) ⟨0,0⟩ 2000=((l.length:Int),⟨0+(QC l.length).length,0⟩):=(QV _ _ _).trans (Ze (z:=0) (most:=2000) (t:=l.flatMap Zd) (by simp[ZC]) (by omega) (by omega));have:=AeB (c:=λr=>decide (ZB (ZC l) r=5)) (one:=UE (ZC l)) (pl:=0+(QC l.length).length) (by rw[LS];exact Ad6 l) h.2 (λpl e=>by simp[ZB,e]) (λm t pl d b=>AjE d b) l.length (Nat.le_refl _);unfold ZA;rw[a];dsimp only;rw[L0,this,LO]
open Classical in
noncomputable def XS{α:Type}(enc:α->List UInt8)(ok:α->Prop)(z:α)(s:List UInt8):α×Int:=if h:∃x,ok x/\enc x=s then(Classical.choose h,0)else(z,12)
theorem Jf{α:Type}{enc:α->List UInt8}{ok:α->Prop}{z:α}{rd:List UInt8->α}(hrd:∀x,ok x->rd (enc x)=x){s:List UInt8}{x:α}(h:ok x)(e:enc x=s):XS enc ok z s=(x,0):=by
 have a:∃x,ok x/\enc x=s:=⟨x,h,e⟩;obtain⟨b,c⟩:=Classical.choose_spec a;have e:Classical.choose a=x:=by rw[<-hrd _ b,c, <-e,hrd _ h]
 unfold XS;rw[dif_pos a,e]
theorem XT{α:Type}{enc:α->List UInt8}{ok:α->Prop}{z:α}{rd:List UInt8->α}(hrd:∀x,ok x->rd (enc x)=x){s:List UInt8}(h:¬(ok (rd s)/\enc (rd s)=s)):XS enc ok z s=(z,12):=by
 unfold XS;rw[dif_neg];rintro⟨x,a,b⟩;have:rd s=x:=by rw[<-b];exact hrd x a
 rw[this]at h;exact h ⟨a,b⟩
theorem YI{α:Type}{enc:α->List UInt8}{ok:α->Prop}{z:α}{s:List UInt8}(h:(XS enc ok z s).2=0):ok (XS enc ok z s).1/\enc (XS enc ok z s).1=s:=by
 unfold XS at h|-;split at h
 ·rename_i a;rw[dif_pos a];exact Classical.choose_spec a
 ·exact absurd (show(12:Int)=0 from h) (by decide)
noncomputable def JP (s:List UInt8):List Mt×Int:=XS ZC AdH [] s
def Ea (x:Sc):Prop:=(0<=x.alive/\x.alive<=2000)/\(0<=x.killed/\x.killed<=2000)/\0<=x.timeout/\x.timeout<=2000
instance (x:Sc):Decidable (Ea x):=by unfold Ea;infer_instance
def Kj (x:Sc):List UInt8:=QC x.alive.toNat++(QC x.killed.toNat++QC x.timeout.toNat)
def EI (x:Sc):List UInt8×Int:=if Ea x then(Kj x,0)else([],22)
def scW (one:Rs->Int×Rs):Sc:=⟨(one ⟨0,0⟩).1,(one (one ⟨0,0⟩).2).1,(one (one (one ⟨0,0⟩).2).2).1⟩
theorem AlO{one:List UInt8->Rs->Int×Rs}(h1:∀(s t:List UInt8) (pl n:Nat),s.drop pl=QC n++t->n<=2000->one s ⟨pl,0⟩=((n:Int),⟨pl+(QC n).length,0⟩)){x:Sc}(h:Ea x):scW (one (Kj x))=x:=by
 obtain⟨a,b,c⟩:=x;obtain⟨⟨g,i⟩,⟨j,k⟩,l,m⟩:=h;obtain⟨a,rfl⟩:=LA g;obtain⟨b,rfl⟩:=LA j;obtain⟨c,rfl⟩:=LA l;have d:(Kj ⟨a,b,c⟩).drop 0=QC a++(QC b++(QC c++[])):=by simp[Kj]
 have e:=Q0 d;have o:=Q0 e;unfold scW;rw[h1 _ _ _ _ d (by simp only at i;omega)];dsimp only;rw[h1 _ _ _ _ e (by simp only at k;omega)];dsimp only;rw[h1 _ _ _ _ o (by simp only at m;omega)]
def Ej (s:List UInt8):Sc:=scW λr=>Qo s r 2000
theorem Abl (x:Sc)(h:Ea x):Ej (Kj x)=x:=AlO (one:=λs r=>Qo s r 2000) (λs t pl n hd hn=>(QV _ _ _).trans (Ze hd (by omega) (by omega))) h
noncomputable def YH (s:List UInt8):Sc×Int:=XS Kj Ea ⟨0,0,0⟩ s
end Go.Proofs.YtgnmkiafeplbpaaGreatDoor
