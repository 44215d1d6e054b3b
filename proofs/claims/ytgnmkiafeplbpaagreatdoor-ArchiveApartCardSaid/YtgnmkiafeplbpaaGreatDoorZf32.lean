/- Lemmas for ArAll. -/
import Derived.Test.YtgnmkiafeplbpaaGreatDoorZf31
import Derived.Test.YtgnmkiafeplbpaaGreatDoorZf24
import Derived.Test.YtgnmkiafeplbpaaGreatDoorZf22
import Derived.Test.YtgnmkiafeplbpaaGreatDoorZf23
import Derived.Test.YtgnmkiafeplbpaaGreatDoorZf1
import Derived.Recover
import Derived.Defers
set_option linter.unusedVariables false
set_option linter.unusedSimpArgs false
set_option maxRecDepth 100000
set_option maxHeartbeats 16000000
namespace Go.Proofs.YtgnmkiafeplbpaaGreatDoor
open Go.RowKit Go.Deep
attribute [local go_sem] Oper.semAt_some
theorem YR (g:Nat)(s:List UInt8)(r:Rs)(w:World)(h:RdO w g s r):
 Calls Tryz.prog 147 #[.pointer (some ⟨g,0,none⟩)] w λe w'=>e=.returned (.int .i64 (r.pl:Int))/\w'=w:=by
 have a:=Row.cellv h (i:=1) (v:=.int .i64 (r.pl:Int)) rfl;clear h;go_enter Tryz.func147,Tryz.ntmps147
 go_wp2_with fail
 go_ret
 exact⟨rfl,rfl⟩
structure CutS where
 r:Rs
 t:Int
 d:List UInt8
 tl:List UInt8
def EQ (g:Nat)(s:List UInt8)(x:CutS):Array Value:=#[.pointer (some ⟨g,0,none⟩),.string ⟨s.toArray⟩,.int .i64 x.t,.string ⟨x.d.toArray⟩,.string ⟨x.tl.toArray⟩]
structure CutO (W:World)(C K g:Nat)(s:List UInt8)(x:CutS):Prop where
 c:Row W C 188 #[.pointer (some ⟨K,0,none⟩)]
 k:Row W K 192 (EQ g s x)
 r:RdO W g s x.r
structure CutE (B:Nat)(w w':World):Prop where
 below:Below B w w'
 row:∀k t cs,Row w k t cs->t≠192->t≠200->t≠3->Row w' k t cs
theorem CutE.trans{B:Nat}{a b c:World}(h:CutE B a b)(k:CutE B b c):CutE B a c:=⟨h.below.trans k.below,λi t cs r h1 h2 h3=>k.row i t cs (h.row i t cs r h1 h2 h3) h1 h2 h3⟩
theorem CutE.of_below{B:Nat}{a b:World}(h:Below a.heap.size a b)(hB:B<=a.heap.size):CutE B a b:=⟨h.mono hB,λ_ _ _ r _ _ _=>r.below h r.lt⟩
theorem Q5{w:World}{i j:Nat}{t u:TypeId}{cs ds:Array Value}(r:Row w i t cs)(q:Row w j u ds)(h:t≠u):i≠j:=λe=>by
 subst e;have a:w.heap[i]? =some (.cells cs t (0,0)):=r;rw[show w.heap[i]? =some (.cells ds u (0,0))from q]at a;injection a with a;injection a with _ a;exact h a.symm
theorem CutE.of_rd{B g:Nat}{s:List UInt8}{r:Rs}{a b:World}(h:RdEff g a b)(hr:RdO a g s r)(hg:B<=g):CutE B a b:=
 ⟨h.below hg (Lj hg (L9 hr.lt)),λ_ _ _ r0 _ h2 _=>h.row r0 (Q5 r0 hr h2)⟩
theorem CutO.rd{W W':World}{C K g:Nat}{s:List UInt8}{x:CutS}{r':Rs}(h:CutO W C K g s x)(e:RdEff g W W')(hr:RdO W' g s r'):CutO W' C K g s { x with r:=r' }:=
 ⟨e.row h.c (Q5 h.c h.r (by decide)),e.row h.k (Q5 h.k h.r (by decide)),hr⟩
theorem CutO.go{W W':World}{C K g:Nat}{s:List UInt8}{x:CutS}(h:CutO W C K g s x)(b:Below W.heap.size W W'):CutO W' C K g s x:=⟨h.c.below b h.c.lt,h.k.below b h.k.lt,h.r.go b⟩
instance St.cut{C K g:Nat}{s:List UInt8}{x:CutS}:St (λW=>CutO W C K g s x):=⟨λh b=>h.go b⟩
def KL (s:List UInt8)(r:Rs):Int:=if ZB s r=5 then 0 else ZB s r
theorem KP (C K g:Nat)(s:List UInt8)(x:CutS)(w:World)(h:CutO w C K g s x):
 Calls Tryz.prog 144 #[.pointer (some ⟨K,0,none⟩)] w λe w'=>e=.returned (.int .i64 (KL s x.r))/\Below w.heap.size w w':=by
 have j:=Row.cellv h.k (i:=0) (v:=.pointer (some ⟨g,0,none⟩)) rfl;have a:=Lv (Aa8 g s x.r w h.r);unfold KL;obtain⟨z,c⟩:∃z,z=ZB s x.r:=⟨_,rfl⟩;rw[<-c]at a|-;clear c h;go_enter Tryz.func144,Tryz.ntmps144
 go_wp2_with fail
 refine a.out.mono ?_;rintro e l ⟨rfl,b, -⟩;by_cases d:z=5
 ·subst d;go_wp2_with fail
  go_ret
  exact⟨rfl,b⟩
 ·go_wp2_with fail
  go_ret
  exact⟨rfl,b⟩
theorem CutO.put{W:World}{C K g:Nat}{s:List UInt8}{x:CutS}(h:CutO W C K g s x){i:Nat}{v:Value}{y:CutS}(hy:(EQ g s x).setIfInBounds i v=EQ g s y)(hr:y.r=x.r):CutO (W.setCell ⟨K,i,none⟩ v) C K g s y/\Only K W (W.setCell ⟨K,i,none⟩ v):=
 ⟨⟨h.c.only (Qu W K i v) (Q5 h.c h.k (by decide)),by have:=h.k.set i v;rw[hy]at this;exact this,by rw[hr];exact h.r.only (Qu W K i v) (Q5 h.r h.k (by decide))⟩,Qu W K i v⟩
theorem CutE.put{B K:Nat}{a b:World}{cs:Array Value}(o:Only K a b)(hK:B<=K)(hr:Row a K 192 cs):CutE B a b:=
 ⟨Ql ((Below.refl _ _).mono (Lj hK (L9 hr.lt))) o hK,λ_ _ _ r h1 _ _=>r.only o (Q5 r hr h1)⟩
theorem Ai6 (B C K g:Nat)(s:List UInt8)(x:CutS)(hp:x.r.pl<=s.length)(hs:s.length<=900000)(hK:B<=K)(hg:B<=g)(N:Nat)(n0:Value)(w:World)(h:CutO w C K g s x)(hn:Row w N 3 #[n0]):
 Calls Tryz.prog 142 #[.pointer (some ⟨C,0,none⟩)] w λe w'=>e=.returned (.int .i64 (KL s (QR s x.r).2))/\CutO w' C K g s { x with r:=(QR s x.r).2,t:=((QR s x.r).1:Int) }/\CutE B w w'/\Row w' N 3 #[n0]:=by
 have Hb:=Lv (λW h=>KX g s x.r hp (by omega) W h);obtain⟨q,hq⟩:∃q,q=QR s x.r:=⟨_,rfl⟩
 have af:(q.1:Int)<256:=by
  rw[hq];unfold QR;split
  ·simp
  ·rename_i b _ _;have:=b.toNat_lt;simp only;omega
 rw[<-hq]at Hb|-;obtain⟨n,r'⟩:=q;simp only at af Hb|-;clear hq hp;go_enter Tryz.func142,Tryz.ntmps142
 go_wp2_with fail
 obtain⟨z,m⟩:∃z,z=w.drew:=⟨_,rfl⟩;have hS:CutO z C K g s x:=by rw[m];exact St.drew (S:=λW=>CutO W C K g s x) h
 have bd:Below w.heap.size w z:=by rw[m];exact St.drew (S:=λW=>Below w.heap.size w W) (Below.refl _ _)
 have ag:IntKind.i64.wrap (n:Int)=(n:Int):=by rw[IntKind.wrap_i64];omega
 refine J2 (last:=10) (S:=λW=>∃r,CutO W C K g s { x with r:=r }) (by kernel_rfl) ?_;simp only[Ly,Le,Ll,Nat.reduceAdd,Ln,Lp,Lz,Lu,Lk];rw[<-m];have ae:=Lj hK (L9 h.k.lt);have hn:=hn.below bd hn.lt;clear m h;have u:∃r,CutO z C K g s { x with r:=r }:=⟨x.r,hS⟩;(refine Zr (i:=0) (v:=.pointer (some ⟨K,0,none⟩)) rfl (by kernel_rfl) (by kernel_rfl) (by kernel_rfl) (by kernel_rfl) (λ_ _ _ h=>h) (QB (Qd rfl (λW p=>by((have c:=p.choose_spec.c.cellv (i:=0) (v:=.pointer (some ⟨K,0,none⟩)) rfl;go_simp))))) (by assumption) ?_;simp only[Act.put,Qa,Qb,Qc]);(refine Zr (i:=1) (v:=.pointer (some ⟨K,0,none⟩)) rfl (by kernel_rfl) (by kernel_rfl) (by kernel_rfl) (by kernel_rfl) (λ_ _ _ h=>h) (QB (Qd rfl (λW p=>by((have c:=p.choose_spec.c.cellv (i:=0) (v:=.pointer (some ⟨K,0,none⟩)) rfl;go_simp))))) (by assumption) ?_;simp only[Act.put,Qa,Qb,Qc]);(refine Zr (i:=2) (v:=.pointer (some ⟨K,0,none⟩)) rfl (by kernel_rfl) (by kernel_rfl) (by kernel_rfl) (by kernel_rfl) (λ_ _ _ h=>h) (QB (Qd rfl (λW p=>by(go_simp)))) (by assumption) ?_;simp only[Act.put,Qa,Qb,Qc]);(refine Zr (i:=3) (v:=.pointer (some ⟨K,0,none⟩)) rfl (by kernel_rfl) (by kernel_rfl) (by kernel_rfl) (by kernel_rfl) (λ_ _ _ h=>h) (QB (Qd rfl (λW p=>by(go_simp)))) (by assumption) ?_;simp only[Act.put,Qa,Qb,Qc]);(refine Zr (i:=4) (v:=.pointer (some ⟨g,0,none⟩)) rfl (by kernel_rfl) (by kernel_rfl) (by kernel_rfl) (by kernel_rfl) (λ_ _ _ h=>h) (QB (Qd rfl (λW p=>by((have c:=p.choose_spec.k.cellv (i:=0) (v:=.pointer (some ⟨g,0,none⟩)) rfl;go_simp))))) (by assumption) ?_;simp only[Act.put,Qa,Qb,Qc]);(refine Qp (rs:=[5]) (by kernel_rfl) (by simp) (λi o=>?_);obtain rfl:i=5:=by simpa using o);refine Qg rfl rfl (λl a=>?_);refine Qm 143 #[.pointer (some ⟨g,0,none⟩)] (w1:=z) (by go_simp) ((Hb.out z hS.r).mono ?_);rintro e W1 ⟨rfl,ad,e1⟩;refine⟨_,rfl,?_⟩;refine a _ _ ?_;clear a l u;simp only[Act.put,Qa,Qb,Qc];have ab:=(CutE.of_below bd ae).trans (CutE.of_rd e1 hS.r hg);have d:=hS.rd e1 ad;have hn:=e1.row hn (Q5 hn hS.r (by decide));have u:∃r,CutO W1 C K g s { x with r:=r }:=⟨_,d⟩;refine⟨λ_=>u,?_⟩;clear hS ad e1 bd;(refine Zr (i:=6) (v:=.int .i64 (n:Int)) rfl (by kernel_rfl) (by kernel_rfl) (by kernel_rfl) (by kernel_rfl) (λ_ _ _ h=>h) (QB (Qd rfl (λW p=>by(go_simp)))) (by assumption) ?_;simp only[Act.put,Qa,Qb,Qc]);(refine Qp (rs:=[7]) (by kernel_rfl) (by simp) (λi o=>?_);obtain rfl:i=7:=by simpa using o);refine Qg rfl rfl (λl a=>?_);unfold Oper.wp;go_simp
 refine a _ _ ?_;clear a l;simp only[Qa,Qb,Qc];refine⟨λ_=>u,?_⟩;(refine Qp (rs:=[8]) (by kernel_rfl) (by simp) (λi o=>?_);obtain rfl:i=8:=by simpa using o);refine Qg rfl rfl (λl a=>?_);unfold Oper.wp;go_simp
 refine a _ _ ?_;clear a l;simp only[Qa,Qb,Qc];refine⟨λ_=>u,?_⟩;(refine Qp (rs:=[9]) (by kernel_rfl) (by simp) (λi o=>?_);obtain rfl:i=9:=by simpa using o);refine Qg rfl rfl (λl a=>?_);unfold Oper.wp;go_simp
 refine a _ _ ?_;clear a l;simp only[Qa,Qb,Qc];refine⟨λ_=>u,?_⟩;(refine Qp (rs:=[10]) (by kernel_rfl) (by simp) (λi o=>?_);obtain rfl:i=10:=by simpa using o);refine Qg rfl rfl (λl a=>?_);unfold Oper.wp;have c1:=d.k.cellv (i:=2) (v:=.int .i64 x.t) rfl;have f1:=d.k.free 2;go_simp
 refine a _ _ ?_;clear a l c1 f1;simp only[Qa,Qb,Qc];refine⟨λh=>absurd rfl h,?_⟩;refine Zv (by kernel_rfl) ?_ _;obtain⟨j,o2⟩:=d.put (i:=2) (v:=.int .i64 (n:Int)) (y:={ x with r:=r',t:=(n:Int) }) rfl rfl;have aa:=ab.trans (CutE.put o2 hK d.k);have hn:=hn.only o2 (Q5 hn d.k (by decide));have Hw:=Lv (KP C K g s _ _ j);have c2:=j.c.cellv (i:=0) (v:=.pointer (some ⟨K,0,none⟩)) rfl;obtain⟨W2,ac⟩:∃W2,W2=W1.setCell ⟨K,2,none⟩ (.int .i64 (n:Int)):=⟨_,rfl⟩;rw[<-ac]at j aa Hw c2 hn|-;clear d ab u ac o2;go_wp2_with fail
 refine Hw.out.mono ?_;rintro e W3 ⟨rfl,b3⟩;have HF:Hid (CutO W3 C K g s { x with r:=r',t:=(n:Int) }/\CutE B w W3/\Row W3 N 3 #[n0]):=⟨j.go b3,aa.trans (.of_below b3 (Lj hK (L9 j.k.lt))),hn.below b3 hn.lt⟩;clear j aa Hw b3 c2;go_wp2_with fail
 go_ret
 exact⟨rfl,HF.out⟩
def JN (s:List UInt8)(r:Rs):Bool:=decide ((QL (s.drop r.pl)).1=0/\1048576<(QL (s.drop r.pl)).2.1)
theorem Ai7 (B C K g N:Nat)(s:List UInt8)(x:CutS)(n:Int)(hp:x.r.pl<=s.length)(hs:s.length<=900000)(hK:B<=K)(hg:B<=g)(hN:B<=N)(w:World)(h:CutO w C K g s x)(hn:Row w N 3 #[.int .i64 n]):
 Calls Tryz.prog 145 #[.pointer (some ⟨C,0,none⟩),.pointer (some ⟨N,0,none⟩)] w λe w'=>e=.returned (.int .i64 (if JN s x.r then 4 else KL s (Qo s x.r 1048576).2))/\
  CutO w' C K g s (if JN s x.r then x else { x with r:=(Qo s x.r 1048576).2 })/\Row w' N 3 #[.int .i64 (if JN s x.r then n else(Qo s x.r 1048576).1)]/\CutE B w w':=by
 have Hb:=Lv (λW h=>Zi g s x.r 1048576 hp (by omega) (by decide) (by decide) W h);have Hl:=Lv (λW=>UD s x.r.pl hp (by omega) W);have HA:=Lv (λW h=>YR g s x.r W h);have hB:=Lj hK (L9 h.k.lt);obtain⟨b,hb⟩:∃b,b=JN s x.r:=⟨_,rfl⟩;rw[<-hb];unfold JN at hb;obtain⟨q,hq⟩:∃q,q=Qo s x.r 1048576:=⟨_,rfl⟩;obtain⟨y,hy⟩:∃y,y=QL (s.drop x.r.pl):=⟨_,rfl⟩;have ae:=Yf (s.drop x.r.pl);rw[<-hq]at Hb|-;rw[<-hy]at Hl ae hb;obtain⟨o,r'⟩:=q;obtain⟨e1,m,k⟩:=y;simp only at Hb Hl ae hb|-;obtain⟨p,af⟩:∃p,p=x.r.pl:=⟨_,rfl⟩;rw[<-af]at Hl HA;have HB:=Lv hb;clear hq hy hp af hb;go_enter Tryz.func145,Tryz.ntmps145
 go_wp2_with fail
 refine QG (λW=>CutO W C K g s x/\Row W N 3 #[.int .i64 n]/\Below w.heap.size w W) (by kernel_rfl) (by kernel_rfl) (St.drew (S:=λW=>CutO W C K g s x/\Row W N 3 #[.int .i64 n]/\Below w.heap.size w W) ⟨h,hn,Below.refl _ _⟩) ?_;clear h hn;(refine Qe rfl ?_ (λW t=>?_) ?_;rotate_left;(focus(have c:=t.1.c.cellv (i:=0) (v:=.pointer (some ⟨K,0,none⟩)) rfl;go_simp;exact rfl));simp only[Act.put,Qa,Qb,Qc])
 iterate 2 (refine Qe rfl ?_ (λW t=>?_) ?_;rotate_left;(focus(go_simp;exact rfl));simp only[Act.put,Qa,Qb,Qc])
 (refine Qe rfl ?_ (λW t=>?_) ?_;rotate_left;(focus(have c:=t.1.k.cellv (i:=1) (v:=.string ⟨s.toArray⟩) rfl;go_simp;exact rfl));simp only[Act.put,Qa,Qb,Qc]);(refine Qe rfl ?_ (λW t=>?_) ?_;rotate_left;(focus(have c:=t.1.c.cellv (i:=0) (v:=.pointer (some ⟨K,0,none⟩)) rfl;go_simp;exact rfl));simp only[Act.put,Qa,Qb,Qc])
 iterate 2 (refine Qe rfl ?_ (λW t=>?_) ?_;rotate_left;(focus(go_simp;exact rfl));simp only[Act.put,Qa,Qb,Qc])
 (refine Qe rfl ?_ (λW t=>?_) ?_;rotate_left;(focus(have c:=t.1.k.cellv (i:=0) (v:=.pointer (some ⟨g,0,none⟩)) rfl;go_simp;exact rfl));simp only[Act.put,Qa,Qb,Qc])
 iterate 2 (refine Qe rfl ?_ (λW t=>?_) ?_;rotate_left;(focus(go_simp;exact rfl));simp only[Act.put,Qa,Qb,Qc])
 (refine QA rfl 147 _ (λW=>by(go_simp;try rfl)) (.int .i64 (p:Int)) (λW t=>(HA.out W t.1.r).mono (λe w' h=>⟨h.1,by rw[h.2];exact Below.refl _ _⟩)) ?_;simp only[Act.put,Qa,Qb,Qc])
 (refine QA rfl 146 _ (λW=>by(go_simp;try rfl)) (.tuple #[.int .u64 (m:Int),.int .i64 ((p+k:Nat):Int),.int .i64 e1]) (λW t=>(Hl.out W).mono (λe w' h=>⟨h.1,by rw[h.2];exact Below.refl _ _⟩)) ?_;simp only[Act.put,Qa,Qb,Qc])
 iterate 7 (refine Qe rfl ?_ (λW t=>?_) ?_;rotate_left;(focus(go_simp;exact rfl));simp only[Act.put,Qa,Qb,Qc])
 refine QE λW9 ag=>?_
 obtain⟨hS,hn,bw⟩:=ag;have cC:=hS.c.cellv (i:=0) (v:=.pointer (some ⟨K,0,none⟩)) rfl;have cK:=hS.k.cellv (i:=0) (v:=.pointer (some ⟨g,0,none⟩)) rfl;by_cases h1:e1=0/\1048576<m
 ·obtain rfl:b=true:=HB.out.trans (decide_eq_true h1);obtain⟨rfl,h2⟩:=h1;have h3:(1048576:Int)<(m:Int):=by omega
  have u:Hid (CutO W9 C K g s x/\Row W9 N 3 #[.int .i64 n]/\CutE B w W9):=⟨hS,hn,.of_below bw hB⟩;clear hS hn bw cC cK h2 ae;go_wp2_with fail
  go_ret
  exact⟨rfl,u.out⟩
 ·obtain rfl:b=false:=HB.out.trans (decide_eq_false h1)
  have j:Hid (Calls Tryz.prog 148 #[.pointer (some ⟨g,0,none⟩),.int .i64 1048576] W9 λe w'=>e=.returned (.int .i64 o)/\CutO w' C K g s { x with r:=r' }/\Row w' N 3 #[.int .i64 n]/\CutE B w w'):=
   (Hb.out W9 hS.r).mono λe w' h=>⟨h.1,hS.rd h.2.2 h.2.1,h.2.2.row hn (Q5 hn hS.r (by decide)),(CutE.of_below bw hB).trans (CutE.of_rd h.2.2 hS.r hg)⟩
  clear hS hn bw Hb;by_cases he:e1=0
  ·subst he;have h3:¬(1048576:Int)<(m:Int):=by omega
   go_wp2_with fail
   refine j.out.mono ?_;rintro e z ⟨rfl,d,a,aa⟩;have c3:=a.cellv (i:=0) (v:=.int .i64 n) rfl;have f3:=a.free 0;have ac:=a.set 0 (.int .i64 o);have o4:=Qu z N 0 (.int .i64 o);have l:CutO (z.setCell ⟨N,0,none⟩ (.int .i64 o)) C K g s { x with r:=r' }:=⟨d.c.only o4 (Q5 d.c a (by decide)),d.k.only o4 (Q5 d.k a (by decide)),d.r.only o4 (Q5 d.r a (by decide))⟩;have ab:CutE B w (z.setCell ⟨N,0,none⟩ (.int .i64 o)):=aa.trans ⟨Ql ((Below.refl _ _).mono (Lj hN (L9 a.lt))) o4 hN,λ_ _ _ r _ _ h=>r.only o4 (Q5 r a h)⟩;have c4:=l.c.cellv (i:=0) (v:=.pointer (some ⟨K,0,none⟩)) rfl;have Hw:=Lv (KP C K g s _ _ l);have u:Hid (CutO (z.setCell ⟨N,0,none⟩ (.int .i64 o)) C K g s { x with r:=r' }/\Row (z.setCell ⟨N,0,none⟩ (.int .i64 o)) N 3 #[.int .i64 o]/\CutE B w (z.setCell ⟨N,0,none⟩ (.int .i64 o))):=⟨l,ac,ab⟩;clear d a aa ac o4 l ab j;go_wp2_with fail
   refine Hw.out.mono ?_;rintro e W5 ⟨rfl,b5⟩;have ad:Hid (CutO W5 C K g s { x with r:=r' }/\Row W5 N 3 #[.int .i64 o]/\CutE B w W5):=⟨u.out.1.go b5,u.out.2.1.below b5 u.out.2.1.lt,u.out.2.2.trans (.of_below b5 (Lj hN (L9 u.out.2.1.lt)))⟩;clear b5 Hw c4 c3 f3;go_wp2_with fail
   go_ret
   exact⟨rfl,ad.out⟩
  ·go_wp2_with fail
   refine j.out.mono ?_;rintro e z ⟨rfl,d,a,aa⟩;have c3:=a.cellv (i:=0) (v:=.int .i64 n) rfl;have f3:=a.free 0;have ac:=a.set 0 (.int .i64 o);have o4:=Qu z N 0 (.int .i64 o);have l:CutO (z.setCell ⟨N,0,none⟩ (.int .i64 o)) C K g s { x with r:=r' }:=⟨d.c.only o4 (Q5 d.c a (by decide)),d.k.only o4 (Q5 d.k a (by decide)),d.r.only o4 (Q5 d.r a (by decide))⟩;have ab:CutE B w (z.setCell ⟨N,0,none⟩ (.int .i64 o)):=aa.trans ⟨Ql ((Below.refl _ _).mono (Lj hN (L9 a.lt))) o4 hN,λ_ _ _ r _ _ h=>r.only o4 (Q5 r a h)⟩;have c4:=l.c.cellv (i:=0) (v:=.pointer (some ⟨K,0,none⟩)) rfl;have Hw:=Lv (KP C K g s _ _ l);have u:Hid (CutO (z.setCell ⟨N,0,none⟩ (.int .i64 o)) C K g s { x with r:=r' }/\Row (z.setCell ⟨N,0,none⟩ (.int .i64 o)) N 3 #[.int .i64 o]/\CutE B w (z.setCell ⟨N,0,none⟩ (.int .i64 o))):=⟨l,ac,ab⟩;clear d a aa ac o4 l ab j;go_wp2_with fail
   refine Hw.out.mono ?_;rintro e W5 ⟨rfl,b5⟩;have ad:Hid (CutO W5 C K g s { x with r:=r' }/\Row W5 N 3 #[.int .i64 o]/\CutE B w W5):=⟨u.out.1.go b5,u.out.2.1.below b5 u.out.2.1.lt,u.out.2.2.trans (.of_below b5 (Lj hN (L9 u.out.2.1.lt)))⟩;clear b5 Hw c4 c3 f3;go_wp2_with fail
   go_ret
   exact⟨rfl,ad.out⟩
theorem Ai8 (B C K g N:Nat)(s:List UInt8)(x:CutS)(n:Nat)(hp:x.r.pl<=s.length)(hp2:(Z4 s x.r n).2.pl<=s.length)(hs:s.length<=900000)(hn1:(n:Int)<=1048576)(hK:B<=K)(hg:B<=g)(w:World)(h:CutO w C K g s x)(hn:Row w N 3 #[.int .i64 (n:Int)]):
 Calls Tryz.prog 149 #[.pointer (some ⟨C,0,none⟩),.pointer (some ⟨N,0,none⟩)] w λe w'=>e=.returned (.int .i64 (KL s (Z4 s (Z4 s x.r n).2 4).2))/\
  CutO w' C K g s { x with r:=(Z4 s (Z4 s x.r n).2 4).2,d:=(Z4 s x.r n).1,tl:=(Z4 s (Z4 s x.r n).2 4).1 }/\CutE B w w':=by
 have H1:=Lv (λW h=>Vr g s x.r n hp (by omega) hn1 W h);have H2:=Lv (λW h=>Vr g s (Z4 s x.r n).2 4 hp2 (by omega) (by decide) W h);have ak:=Lj hK (L9 h.k.lt);obtain⟨q,hq⟩:∃q,q=Z4 s x.r n:=⟨_,rfl⟩;rw[<-hq]at H1 H2|-;obtain⟨d1,r1⟩:=q;simp only at H1 H2|-;obtain⟨q2,aj⟩:∃q2,q2=Z4 s r1 4:=⟨_,rfl⟩;rw[<-aj]at H2|-;obtain⟨t1,r2⟩:=q2;simp only at H2|-;clear hq aj hp hp2;go_enter Tryz.func149,Tryz.ntmps149
 go_wp2_with fail
 obtain⟨Vd,ad⟩:∃Vd,Vd=w.drew:=⟨_,rfl⟩;have bd:Below w.heap.size w Vd:=by rw[ad];exact St.drew (S:=λW=>Below w.heap.size w W) (Below.refl _ _)
 have hS:=h.go bd;have hm:=hn.below bd hn.lt;have hE:=CutE.of_below bd ak;refine J2 (last:=19) (S:=λW=>∃r d tl,CutO W C K g s { x with r:=r,d:=d,tl:=tl }/\Row W N 3 #[.int .i64 (n:Int)]) (by kernel_rfl) ?_;simp only[Ly,Le,Ll,Nat.reduceAdd,Ln,Lp,Lz,Lu,Lk];rw[<-ad];clear ad h hn bd;have o:∃r d tl,CutO Vd C K g s { x with r:=r,d:=d,tl:=tl }/\Row Vd N 3 #[.int .i64 (n:Int)]:=⟨_,_,_,hS,hm⟩;(refine Zr (i:=0) (v:=.pointer (some ⟨K,0,none⟩)) rfl (by kernel_rfl) (by kernel_rfl) (by kernel_rfl) (by kernel_rfl) (λ_ _ _ h=>h) (QB (Qd rfl (λW j=>by((obtain⟨_,_,_,p,_⟩:=j;have c:=p.c.cellv (i:=0) (v:=.pointer (some ⟨K,0,none⟩)) rfl;go_simp))))) (by assumption) ?_;simp only[Act.put,Qa,Qb,Qc]);(refine Zr (i:=1) (v:=.pointer (some ⟨K,0,none⟩)) rfl (by kernel_rfl) (by kernel_rfl) (by kernel_rfl) (by kernel_rfl) (λ_ _ _ h=>h) (QB (Qd rfl (λW j=>by((obtain⟨_,_,_,p,_⟩:=j;have c:=p.c.cellv (i:=0) (v:=.pointer (some ⟨K,0,none⟩)) rfl;go_simp))))) (by assumption) ?_;simp only[Act.put,Qa,Qb,Qc]);(refine Zr (i:=2) (v:=.pointer (some ⟨K,0,none⟩)) rfl (by kernel_rfl) (by kernel_rfl) (by kernel_rfl) (by kernel_rfl) (λ_ _ _ h=>h) (QB (Qd rfl (λW j=>by((obtain⟨_,_,_,p,_⟩:=j;have c:=p.c.cellv (i:=0) (v:=.pointer (some ⟨K,0,none⟩)) rfl;go_simp))))) (by assumption) ?_;simp only[Act.put,Qa,Qb,Qc]);(refine Zr (i:=3) (v:=.pointer (some ⟨K,0,none⟩)) rfl (by kernel_rfl) (by kernel_rfl) (by kernel_rfl) (by kernel_rfl) (λ_ _ _ h=>h) (QB (Qd rfl (λW j=>by(go_simp)))) (by assumption) ?_;simp only[Act.put,Qa,Qb,Qc]);(refine Zr (i:=4) (v:=.pointer (some ⟨K,0,none⟩)) rfl (by kernel_rfl) (by kernel_rfl) (by kernel_rfl) (by kernel_rfl) (λ_ _ _ h=>h) (QB (Qd rfl (λW j=>by(go_simp)))) (by assumption) ?_;simp only[Act.put,Qa,Qb,Qc]);(refine Zr (i:=5) (v:=.pointer (some ⟨g,0,none⟩)) rfl (by kernel_rfl) (by kernel_rfl) (by kernel_rfl) (by kernel_rfl) (λ_ _ _ h=>h) (QB (Qd rfl (λW j=>by((obtain⟨_,_,_,p,_⟩:=j;have c:=p.k.cellv (i:=0) (v:=.pointer (some ⟨g,0,none⟩)) rfl;go_simp))))) (by assumption) ?_;simp only[Act.put,Qa,Qb,Qc]);(refine Zr (i:=6) (v:=.int .i64 (n:Int)) rfl (by kernel_rfl) (by kernel_rfl) (by kernel_rfl) (by kernel_rfl) (λ_ _ _ h=>h) (QB (Qd rfl (λW j=>by((obtain⟨_,_,_,_,p⟩:=j;have c:=p.cellv (i:=0) (v:=.int .i64 (n:Int)) rfl;go_simp))))) (by assumption) ?_;simp only[Act.put,Qa,Qb,Qc]);(refine Zr (i:=8) (v:=.pointer (some ⟨K,0,none⟩)) rfl (by kernel_rfl) (by kernel_rfl) (by kernel_rfl) (by kernel_rfl) (λ_ _ _ h=>h) (QB (Qd rfl (λW j=>by((obtain⟨_,_,_,p,_⟩:=j;have c:=p.c.cellv (i:=0) (v:=.pointer (some ⟨K,0,none⟩)) rfl;go_simp))))) (by assumption) ?_;simp only[Act.put,Qa,Qb,Qc]);(refine Zr (i:=9) (v:=.pointer (some ⟨K,0,none⟩)) rfl (by kernel_rfl) (by kernel_rfl) (by kernel_rfl) (by kernel_rfl) (λ_ _ _ h=>h) (QB (Qd rfl (λW j=>by(go_simp)))) (by assumption) ?_;simp only[Act.put,Qa,Qb,Qc]);(refine Zr (i:=10) (v:=.pointer (some ⟨K,0,none⟩)) rfl (by kernel_rfl) (by kernel_rfl) (by kernel_rfl) (by kernel_rfl) (λ_ _ _ h=>h) (QB (Qd rfl (λW j=>by(go_simp)))) (by assumption) ?_;simp only[Act.put,Qa,Qb,Qc]);(refine Zr (i:=11) (v:=.pointer (some ⟨g,0,none⟩)) rfl (by kernel_rfl) (by kernel_rfl) (by kernel_rfl) (by kernel_rfl) (λ_ _ _ h=>h) (QB (Qd rfl (λW j=>by((obtain⟨_,_,_,p,_⟩:=j;have c:=p.k.cellv (i:=0) (v:=.pointer (some ⟨g,0,none⟩)) rfl;go_simp))))) (by assumption) ?_;simp only[Act.put,Qa,Qb,Qc]);(refine Qp (rs:=[7]) (by kernel_rfl) (by simp) (λi l=>?_);obtain rfl:i=7:=by simpa using l);refine Qg rfl rfl (λb a=>?_);refine Qm 150 #[.pointer (some ⟨g,0,none⟩),.int .i64 (n:Int)] (w1:=Vd) (by go_simp) ((H1.out Vd hS.r).mono ?_);rintro e W1 ⟨rfl,aa,e1⟩;refine⟨_,rfl,?_⟩;refine a _ _ ?_;clear a b o;simp only[Act.put,Qa,Qb,Qc];have ae:=hE.trans (CutE.of_rd e1 hS.r hg);have t:=hS.rd e1 aa;have ab:=e1.row hm (Q5 hm hS.r (by decide));have o:∃r d tl,CutO W1 C K g s { x with r:=r,d:=d,tl:=tl }/\Row W1 N 3 #[.int .i64 (n:Int)]:=⟨_,_,_,t,ab⟩;refine⟨λ_=>o,?_⟩;clear hS hE hm aa e1;(refine Qp (rs:=[12]) (by kernel_rfl) (by simp) (λi l=>?_);obtain rfl:i=12:=by simpa using l);refine Qg rfl rfl (λb a=>?_);refine Qm 150 #[.pointer (some ⟨g,0,none⟩),.int .i64 ((4:Nat):Int)] (w1:=W1) (by go_simp) ((H2.out W1 t.r).mono ?_);rintro e W2 ⟨rfl,aa,e1⟩;refine⟨_,rfl,?_⟩;refine a _ _ ?_;clear a b o;simp only[Act.put,Qa,Qb,Qc];have af:=ae.trans (CutE.of_rd e1 t.r hg);have m:=t.rd e1 aa;have ac:=e1.row ab (Q5 ab t.r (by decide));have o:∃r d tl,CutO W2 C K g s { x with r:=r,d:=d,tl:=tl }/\Row W2 N 3 #[.int .i64 (n:Int)]:=⟨_,_,_,m,ac⟩;refine⟨λ_=>o,?_⟩;clear t ae ab aa e1;(refine Qp (rs:=[13]) (by kernel_rfl) (by simp) (λi l=>?_);obtain rfl:i=13:=by simpa using l);refine Qg rfl rfl (λb a=>?_);unfold Oper.wp;go_simp
 refine a _ _ ?_;clear a b;simp only[Qa,Qb,Qc];refine⟨λ_=>o,?_⟩;(refine Qp (rs:=[14]) (by kernel_rfl) (by simp) (λi l=>?_);obtain rfl:i=14:=by simpa using l);refine Qg rfl rfl (λb a=>?_);unfold Oper.wp;go_simp
 refine a _ _ ?_;clear a b;simp only[Qa,Qb,Qc];refine⟨λ_=>o,?_⟩;(refine Qp (rs:=[15]) (by kernel_rfl) (by simp) (λi l=>?_);obtain rfl:i=15:=by simpa using l);refine Qg rfl rfl (λb a=>?_);unfold Oper.wp;go_simp
 refine a _ _ ?_;clear a b;simp only[Qa,Qb,Qc];refine⟨λ_=>o,?_⟩;(refine Qp (rs:=[16]) (by kernel_rfl) (by simp) (λi l=>?_);obtain rfl:i=16:=by simpa using l);refine Qg rfl rfl (λb a=>?_);unfold Oper.wp;have c1:=m.k.cellv (i:=3) (v:=.string ⟨x.d.toArray⟩) rfl;have f1:=m.k.free 3;go_simp
 refine a _ _ ?_;clear a b c1 f1;simp only[Qa,Qb,Qc];obtain⟨u,o1⟩:=m.put (i:=3) (v:=.string ⟨d1.toArray⟩) (y:={ x with r:=r2,d:=d1 }) rfl rfl;have ag:=af.trans (CutE.put o1 hK m.k);have ai:=ac.only o1 (Q5 ac m.k (by decide));replace o:∃r d tl,CutO (W2.setCell ⟨K,3,none⟩ (.string ⟨d1.toArray⟩)) C K g s { x with r:=r,d:=d,tl:=tl }/\Row (W2.setCell ⟨K,3,none⟩ (.string ⟨d1.toArray⟩)) N 3 #[.int .i64 (n:Int)]:=⟨_,_,_,u,ai⟩;refine⟨λ_=>o,?_⟩;clear m af ac o1;(refine Qp (rs:=[17]) (by kernel_rfl) (by simp) (λi l=>?_);obtain rfl:i=17:=by simpa using l);refine Qg rfl rfl (λb a=>?_);unfold Oper.wp;go_simp
 refine a _ _ ?_;clear a b;simp only[Qa,Qb,Qc];refine⟨λ_=>o,?_⟩;(refine Qp (rs:=[18]) (by kernel_rfl) (by simp) (λi l=>?_);obtain rfl:i=18:=by simpa using l);refine Qg rfl rfl (λb a=>?_);unfold Oper.wp;go_simp
 refine a _ _ ?_;clear a b;simp only[Qa,Qb,Qc];refine⟨λ_=>o,?_⟩;(refine Qp (rs:=[19]) (by kernel_rfl) (by simp) (λi l=>?_);obtain rfl:i=19:=by simpa using l);refine Qg rfl rfl (λb a=>?_);unfold Oper.wp;have c1:=u.k.cellv (i:=4) (v:=.string ⟨x.tl.toArray⟩) rfl;have f1:=u.k.free 4;go_simp
 refine a _ _ ?_;clear a b c1 f1;simp only[Qa,Qb,Qc];obtain⟨z,o1⟩:=u.put (i:=4) (v:=.string ⟨t1.toArray⟩) (y:={ x with r:=r2,d:=d1,tl:=t1 }) rfl rfl;have ah:=ag.trans (CutE.put o1 hK u.k);refine⟨λh=>absurd rfl h,?_⟩;refine Zv (by kernel_rfl) ?_ _;have Hw:=Lv (KP C K g s _ _ z);have c2:=z.c.cellv (i:=0) (v:=.pointer (some ⟨K,0,none⟩)) rfl;clear u ag ai o o1;go_wp2_with fail
 refine Hw.out.mono ?_;rintro e W3 ⟨rfl,b3⟩;have HF:=Lv (And.intro (z.go b3) (ah.trans (.of_below b3 (Lj hK (L9 z.k.lt)))));clear z ah Hw b3 c2;go_wp2_with fail
 go_ret
 exact⟨rfl,HF.out⟩
end Go.Proofs.YtgnmkiafeplbpaaGreatDoor
namespace Go.Proofs.YtgnmkiafeplbpaaGreatDoor
open Go.RowKit Go.Deep
def Zy (l:List Sec):List Value:=l.flatMap λx=>(QO x).toList
theorem Ya (w:World):(zeroValue 48).run Tryz.prog w=.ok (.agg (QO ⟨0,[]⟩)) w:=by kernel_rfl
theorem Yl{W:World}{A:Option Addr}{l:List Sec}(hr:Rd W A (Zy l)){k:Nat}{x:Sec}(hx:l[k]? =some x):∃ad,A=some ad/\∀(j:Nat) (u:Value),(QO x).toList[j]? =some u->W.cell? ((ad.add (k*2)).add j)=some u:=Agz (c:=λx=>(QO x).toList) (sz:=2) (λ_=>rfl) (by decide) hr hx
theorem Ul (x:Sec)(w:World)(ht:0<=x.t/\x.t<=255)(hd:x.d.length<=900000):
 Calls Tryz.prog 92 #[.agg (QO x)] w λe w'=>e=.returned (.int .i64 (ZD x:Int))/\Below w.heap.size w w':=by
 have q:Hid (∀W,Calls Tryz.prog 167 #[.agg (QO x)] W λe w'=>e=.returned (.string ⟨(Zt x).toArray⟩)/\Below W.heap.size W w'):=λW=>AaI x W ht hd
 have l:ZD x=(Zt x).length+x.d.length+4:=rfl
 have j:(Zt x).length<=11:=by
  unfold Zt;have:=Qz x.d.length;simp only[Le];omega
 obtain⟨n,b⟩:∃n,n=ZD x:=⟨_,rfl⟩;obtain⟨h,a⟩:∃h,h=Zt x:=⟨_,rfl⟩;rw[<-b];rw[<-b, <-a]at l;rw[<-a]at j q;obtain⟨t,d⟩:=x;simp only at l hd;have u:(⟨d.toArray⟩:ByteArray).size=d.length:=by simp[ByteArray.size]
 have y:(⟨h.toArray⟩:ByteArray).size=h.length:=by simp[ByteArray.size]
 have e1:IntKind.i64.wrap ((h.length:Int)+(d.length:Int))=(h.length:Int)+(d.length:Int):=IntWalk.i64_in _ (by omega);have e2:IntKind.i64.wrap ((h.length:Int)+(d.length:Int)+4)=(n:Int):=(IntWalk.i64_in _ (by omega)).trans (by omega);clear a b ht j hd l;go_enter Tryz.func92,Tryz.ntmps92
 go_wp2_with (refine Qx _ _ rfl ?_)
 refine Stop.to ?_;refine Qf rfl 48 _ rfl (QO ⟨t,d⟩) rfl ?_;intro G Gw o p m;have s:=m.mono o;clear m o;go_wp2_with fail
 refine QG (λW=>Row W G 48 (QO ⟨t,d⟩)/\Below w.heap.size w W) (by kernel_rfl) (by kernel_rfl) (St.drew (S:=λW=>Row W G 48 (QO ⟨t,d⟩)/\Below w.heap.size w W) ⟨p,s⟩) ?_;clear p s;(refine ZN rfl 48 _ rfl (G) rfl 48 _ _ (λW h=>h.1) Tryz.underlying48 rfl (by kernel_rfl) ?_;simp only[Act.put,Qa,Qb,Qc]);(refine QA rfl 167 _ (λW=>by(go_simp;try rfl)) (.string ⟨h.toArray⟩) (λW k=>q.out W) ?_;simp only[Act.put,Qa,Qb,Qc])
 iterate 2 (refine Qe rfl ?_ (λW k=>?_) ?_;rotate_left;(focus(go_simp;exact rfl));simp only[Act.put,Qa,Qb,Qc])
 (refine Qe rfl ?_ (λW k=>?_) ?_;rotate_left;(focus(have c:=Row.cellv k.1 (i:=1) (v:=.string ⟨d.toArray⟩) rfl;go_simp;exact rfl));simp only[Act.put,Qa,Qb,Qc])
 iterate 4 (refine Qe rfl ?_ (λW k=>?_) ?_;rotate_left;(focus(go_simp;exact rfl));simp only[Act.put,Qa,Qb,Qc])
 refine QE λW9 g=>?_
 have z:=Lv g.2;clear g;go_wp2_with fail
 go_ret
 exact⟨rfl,z.out⟩
theorem EC (A:Option Addr)(cap:Nat)(l:List Sec)(w:World)(hr:Rd w A (Zy l))(hl:l.length<=1000000):
 Calls Tryz.prog 76 #[.slice A l.length cap] w λe w'=>e=.returned (.bool (Kk l))/\Below w.heap.size w w':=by
 have ac:(l.length:Int)<=1000000:=by omega
 have Hr:=Lv hr;obtain⟨z,hz⟩:∃z,z=Kk l:=⟨_,rfl⟩;rw[<-hz];have c:Hid (z=(J9 0 l && decide (1<=l.length/\l.length<=16))):=hz;clear hr hl hz;go_enter Tryz.func76,Tryz.ntmps76
 go_wp2_with fail
 go_loopw [3,8] (λa i W=>∃(k:Nat) (last:Int),i=.int .i64 (k:Int)/\k<=l.length/\a=.int .i64 last/\Hid (J9 0 l=J9 last (l.drop k))/\Below w.heap.size w W) (λ_ i _=>l.length-(intOf i).toNat)
 case atStart=>exact⟨0,0,rfl,Nat.zero_le _,rfl,rfl,Below.refl _ _⟩
 case round=>
  obtain⟨k,last,rfl,hk,rfl,p,m⟩:=hrel;by_cases g:k<l.length
  ·obtain⟨x,y⟩:∃x,l[k]? =some x:=⟨_,Ld g⟩;obtain⟨ad,u,n⟩:=Yl (Hr.out.go m) y;subst u;have aa:(k:Int)<(l.length:Int):=by omega
   have ab:(0:Int)<=(k:Int):=by omega
   have o:l.drop k=x::l.drop (k+1):=by rw[<-Ns g,(Lf.1 y).2]
   have b:Hid (J9 0 l=(decide (last<x.t/\x.t<=255) && J9 x.t (l.drop (k+1)))):=by rw[show J9 0 l=_ from p.out,o];rfl
   obtain⟨t,d⟩:=x;have h:=Lv m;clear y o p m g;go_wp2_with (first| (refine Qn rfl 48 _ rfl (ad.add (k*2)) rfl (QO ⟨t,d⟩).toList _ n Tryz.underlying48 rfl (by kernel_rfl) ?_)| (refine Qs _ rfl ?_))
   refine Stop.to ?_;refine Qi rfl 48 rfl _ _ (Ya _) rfl ?_;intro M V0 s rM bM;go_wp2_with (refine Qk _ _ _ rfl ?_)
   refine Stop.to ?_;refine Qh rfl 48 _ _ rfl M (QO ⟨t,d⟩) rfl rfl 48 _ rM (by kernel_rfl) rfl (by simp[QO,Value.oneCell']) ?_;intro V1 r1 o1;have j:Hid (Below w.heap.size w V1):=h.out.trans ((bM.mono (Lj h.out.size s)).trans (o1.below (Lj h.out.size s)));have c0:=Row.cellv r1 (i:=0) (v:=.int .i64 t) rfl;clear rM bM s o1 r1 n;by_cases h1:t<=last
   ·obtain rfl:z=false:=c.out.trans (by rw[b.out,decide_eq_false (by omega)];rfl);clear c;go_wp2_with fail
    go_ret
    exact⟨rfl,j.out⟩
   by_cases h2:255<t
   ·obtain rfl:z=false:=c.out.trans (by rw[b.out,decide_eq_false (by omega)];rfl);clear c;go_wp2_with fail
    go_ret
    exact⟨rfl,j.out⟩
   have q:Hid (J9 0 l=J9 t (l.drop (k+1))):=b.out.trans (by rw[decide_eq_true (by omega)];rfl);go_wp2_with fail
   go_roundw
   case rel=>exact⟨k+1,t,by go_num,by omega,rfl,q,j.out⟩
   case measure=>simp[intOf];omega
  ·obtain rfl:k=l.length:=by omega
   have b:Hid (J9 0 l=true):=p.out.trans (by rw[List.drop_length];rfl);have h:=Lv m;clear p m g hk;by_cases h1:1<=(l.length:Int)
   ·by_cases h2:(l.length:Int)<=16
    ·obtain rfl:z=true:=c.out.trans (by rw[b.out,decide_eq_true (by omega)];rfl);clear c;go_wp2_with fail
     go_ret
     exact⟨rfl,h.out⟩
    ·obtain rfl:z=false:=c.out.trans (by rw[b.out,decide_eq_false (by omega)];rfl);clear c;go_wp2_with fail
     go_ret
     exact⟨rfl,h.out⟩
   ·obtain rfl:z=false:=c.out.trans (by rw[b.out,decide_eq_false (by omega)];rfl);clear c;go_wp2_with fail
    go_ret
    exact⟨rfl,h.out⟩
section
variable {P:Program} {Q:Exit->Act->List Frame->World->Prop} {a:Act} {cs:List Frame} {w:World} {ops:Array Oper} {rest:List Oper} {o:Oper}
def ZK (P:Program)(ops:Array Oper)(Q:Exit->Act->List Frame->World->Prop):List Oper->Act->List Frame->World->Prop
 |[],a,cs,w=>Q .normal a cs w
 |o::rest,a,cs,w=>
  if Region.wanted o (yielded ops a.tmps)then
   match (execOp a.eval o).run P w with
   | .ok .recover w'=>
    match recoverD cs with
    |some (v,cs')=>ZK P ops Q rest (a.put o.dst v) cs' w'
    |none=>ZK P ops Q rest (a.put o.dst .nilIface) cs w'
   |r=>o.upon P a (λa' w'=>ZK P ops Q rest a' cs w') (λe a' w'=>Q e a' cs w') r
  else ZK P ops Q rest (a.put o.dst undef) cs w
theorem Ae1 (l:List Oper):∀k,(∀j,l[j]? =ops[k+j]?)->wpOpsS P ops Q (List.range' k l.length)=ZK P ops Q l:=by
 induction l with
 |nil=>intro k _;funext a cs w;simp[wpOpsS,ZK]
 |cons o l ih=>
  intro k h;have b:ops[k]? =some o:=by have:=h 0;simpa using this.symm
  have c:=ih (k+1) (λj=>by have:=h (j+1);simp only[LU]at this;rw[this];congr 1;omega);funext a cs w;rw[Le,List.range'_succ,wpOpsS,b,ZK,c];rfl
theorem JL{id:Nat}{l:List Oper}(h:ZK P l.toArray Q l a cs w):(Code.region id l.toArray false).wpS P Q a cs w:=by
 refine wpS_region ?_;rw[Ly,List.range_eq_range',Ae1 l 0 (λj=>by rw[LS];simp)];exact h
theorem Y1{o:Oper}{y:Nat->Option Bool}(h:o.guard=none):Region.wanted o y=true:=by unfold Region.wanted;rw[h]
theorem Q2 (hgd:o.guard=none)(h:o.wp P a w (λa' w'=>ZK P ops Q rest a' cs w') (λe a' w'=>Q e a' cs w')):ZK P ops Q (o::rest) a cs w:=by
 simp only[ZK,Y1 hgd,if_true];unfold Oper.wp at h;split
 ·rename_i b;rw[b]at h;exact h.elim
 ·exact h
theorem Al4 (hgd:o.guard=none)(he:(execOp a.eval o).run P w=.ok .recover w){v:Value}{cs':List Frame}(hr:recoverD cs=some (v,cs'))(h:ZK P ops Q rest (a.put o.dst v) cs' w):ZK P ops Q (o::rest) a cs w:=by
 simp only[ZK,Y1 hgd,if_true,he,hr];exact h
theorem AdI (hgd:o.guard=none)(he:(execOp a.eval o).run P w=.ok .recover w)(hr:recoverD cs=none)(h:ZK P ops Q rest (a.put o.dst .nilIface) cs w):ZK P ops Q (o::rest) a cs w:=by
 simp only[ZK,Y1 hgd,if_true,he,hr];exact h
end
theorem XC{P:Program}{ρ:Operand->Value}{o:Oper}{x:Operand}{t u:TypeId}{b:Bool}{v:Value}{w w':World}(ho:o.op=.typeAssert x t u b)(h:(Instr.typeAssert (ρ x) t u b).run P w=.ok v w'):(execOp ρ o).run P w=.ok (.value v) w':=by
 simp only[execOp,ho,Sem.run_bind,h,Result.andThen_ok,Sem.run_pure]
end Go.Proofs.YtgnmkiafeplbpaaGreatDoor
