/- Lemmas for ArAll. -/
import Derived.Test.YtgnmkiafeplbpaaGreatDoorZf1
import Derived.Test.YtgnmkiafeplbpaaGreatDoorZf24
import Derived.Test.YtgnmkiafeplbpaaGreatDoorZf25
import Derived.Test.YtgnmkiafeplbpaaGreatDoorZf26
import Derived.Test.YtgnmkiafeplbpaaGreatDoorZf11
set_option linter.unusedVariables false
set_option linter.unusedSimpArgs false
set_option maxRecDepth 100000
set_option maxHeartbeats 16000000
namespace Go.Proofs.YtgnmkiafeplbpaaGreatDoor
open Go.RowKit Go.Deep
attribute [local go_sem] Oper.semAt_some
theorem Yi{w w':World}{base size n g:Nat}{e:TypeId}{v:Value}{xs:List Value}(h:w.ownsRow base e size v n xs)(r:RdEff g w w')(hg:g<base):w'.ownsRow base e size v n xs:=
 h.kept (row:=some g) ⟨r.os,r.tape,r.output,r.size,λk hk hne=>r.block k hk (λe=>hne (by rw[e]))⟩ (.inr (λe=>by
  rcases h.2 with⟨rfl,_⟩|⟨g',cap,cur,rfl,hB,_⟩
  ·simp[Value.ownBlock]at e
  ·have:g'=g:=by simpa[Value.ownBlock]using e
   omega))
theorem Vz{α:Type}{s:List UInt8}{r:Rs}{p:Int×Nat×α}{z:α}(h:r.pl<=s.length)(hp:p.1=0->p.2.1<=s.length):(r.step p z).2.pl<=s.length:=by
 unfold Rs.step Rs.move;dsimp only;by_cases b:r.er=0
 ·rw[if_pos b];by_cases a:p.1=0
  ·rw[if_pos a];exact hp a
  ·rw[if_neg a];exact h
 ·rw[if_neg b];exact h
theorem Yj{z:Int}{s:List UInt8}{r:Rs}{most:Int}(h:r.pl<=s.length):(KT z s r most).2.pl<=s.length:=Vz h λ_=>Y7 most h
theorem Z3{s:List UInt8}{r:Rs}{most:Int}(hm:0<=most):0<=(KT 0 s r most).1/\(KT 0 s r most).1<=most:=by
 unfold KT Rs.step Rs.move;dsimp only;by_cases b:r.er=0
 ·rw[if_pos b];by_cases a:(QZ s r.pl most).1=0
  ·rw[if_pos a];have:=Y6 a;simp only[if_true];omega
  ·rw[if_neg a,if_neg a];omega
 ·rw[if_neg b,if_neg b];omega
theorem Aa1{z most:Int}{s:List UInt8}{r:Rs}(h:r.pl<=s.length):∀k,(ZQ z most s r k).2.pl<=s.length
 |0=>h
 |k+1=>Yj (z:=z) (most:=most) (Aa1 h k)
theorem Ec{z most:Int}{s:List UInt8}{r:Rs}:∀k,(ZQ z most s r k).1.length=k
 |0=>rfl
 |k+1=>by rw[ZQ,La,Ec k];rfl
theorem AgX{s:List UInt8}{r:Rs}{n:Nat}(h:r.pl<=s.length):(Z4 s r n).2.pl<=s.length:=Vz h λe=>by
 unfold J1 at e|-
 split
 ·rename_i hc;rw[if_pos hc]at e;exact absurd (show(2:Int)=0 from e) (by decide)
 ·dsimp only;omega
theorem KI{s:List UInt8}{r:Rs}(h:r.pl<=s.length):(QR s r).2.pl<=s.length:=AgX h
theorem K5 (s:List UInt8)(r:Rs):(QR s r).1<256:=by
 unfold QR;dsimp only;split
 ·omega
 ·rename_i b _ _;exact b.toNat_lt
theorem E7 (s:List UInt8)(r:Rs):InI (JH s r).1:=by
 unfold JH Rs.step;dsimp only;split
 ·rcases Yf (s.drop r.pl)with⟨_,h⟩|⟨_,h,_⟩
  ·exact AmB h
  ·rw[h];exact⟨by decide,by decide⟩
 ·exact⟨by decide,by decide⟩
theorem Ak7 (s:List UInt8):Ak6 s=⟨(ZQ 0 200 s (Qo s ⟨0,0⟩ 30).2 (Qo s ⟨0,0⟩ 30).1.toNat).1,((QR s (ZQ 0 200 s (Qo s ⟨0,0⟩ 30).2 (Qo s ⟨0,0⟩ 30).1.toNat).2).1:Int),(JH s (QR s (ZQ 0 200 s (Qo s ⟨0,0⟩ 30).2 (Qo s ⟨0,0⟩ 30).1.toNat).2).2).1⟩:=by rw[Ak6]
structure DlGot (s:List UInt8)(w w':World)(e:Ending)(y:DlV):Prop where
 d:y.d=(Yp s).1
 e:e=.returned (.tuple #[.agg y.cells,.int .i64 (Yp s).2])
 ok:DlT w' y
 b:Below w.heap.size w w'
 n:InI y.d.n
structure DgL (s:List UInt8)(r1:Rs)(R g D lim:Nat)(k:Nat)(w W:World)(v:Value):Prop where
 rd:RdO W g s (ZQ 0 200 s r1 k).2
 dd:Row W D 91 #[v,.int .i64 0,.int .i64 0]
 rr:Row W R 91 #[.slice none 0 0,.int .i64 0,.int .i64 0]
 own:W.ownsRow lim 3 1 v k (Qj (ZQ 0 200 s r1 k).1)
 b:Below w.heap.size w W
 lim:lim<=W.heap.size
theorem DlT.eff{w w':World}{x:DlV}{g:Nat}{s:List UInt8}{r:Rs}(h:DlT w x)(hg:RdO w g s r)(e:RdEff g w w'):DlT w' x:=
 h.same λa cs _ k=>e.row k (λe2=>by
  rw[e2]at k
  have h1:w.heap[g]? =_:=k
  rw[show w.heap[g]? =_ from hg]at h1
  injection h1 with h1
  injection h1 with _ h1
  exact absurd h1 (by decide))
theorem X9 (s:List UInt8)(w:World):
 Calls Tryz.prog 141 #[.string ⟨s.toArray⟩] w λe w'=>∃g,e=.returned (.pointer (some ⟨g,0,none⟩))/\RdO w' g s ⟨0,0⟩/\Below w.heap.size w w'/\w.heap.size<=g:=
 (Abv s w).mono λ_ _ h=>⟨_,h.1,h.2.1,h.2.2,Nat.le_refl _⟩
theorem Ae4 (w:World):(zeroValue 91).run Tryz.prog w=.ok (.agg #[.slice none 0 0,.int .i64 0,.int .i64 0]) w:=by kernel_rfl
theorem Ahy (s:List UInt8)(w:World)(hs:s.length<=1000000):
 Calls Tryz.prog 228 #[.string ⟨s.toArray⟩] w λe w'=>∃y,DlGot s w w' e y:=by
 have Hs:=Lv hs;clear hs;go_enter Tryz.func228,Tryz.ntmps228
 go_wp2_with (first|fail| (refine Qs _ rfl ?_))
 refine Stop.to ?_;refine Qi rfl 91 rfl _ _ (Ae4 _) rfl ?_;intro R Rw Rh Rr Rb;go_wp2_with fail
 refine(X9 s Rw).mono ?_;rintro e w2 ⟨g,rfl,h2,b2,hg⟩;go_wp2_with (first|fail| (refine Qs _ rfl ?_))
 refine Stop.to ?_;refine Qi rfl 91 rfl _ _ (Ae4 _) rfl ?_;intro D Dw Dh Dr Db;have ah:Row Rw R 91 #[.slice none 0 0,.int .i64 0,.int .i64 0]:=Rr;have ay:Row Dw D 91 #[.slice none 0 0,.int .i64 0,.int .i64 0]:=Dr;have b4:R<g:=Lg ah.lt hg;have b5:g<D:=Lg (Row.lt h2) Dh;have bb:=ah.below b2 ah.lt;have bc:=bb.below Db (by omega);have a9:=h2.go (Db.mono Dh);have au:Below w.heap.size w w2:=((Below.refl w.heap.size w).trans (Rb.mono Rh)).trans (b2.mono (by have:=ah.lt;omega));have av:Below w.heap.size w Dw:=au.trans (Db.mono (by have:=au.size;omega));clear Rr Dr Rb b2 h2 hg Db bb ah au;go_wp2_with fail
 have HC:=Zi g s ⟨0,0⟩ 30 (Nat.zero_le _) Hs.out (by omega) (by omega) Dw a9;refine HC.mono ?_;clear HC;rintro e w3 ⟨rfl,h3,e3⟩;have bk:=e3.row bc (by omega);have ax:=e3.row ay (by omega);have b3:=av.trans (e3.below (show w.heap.size<=g by omega) av.size);have q:=Z3 (s:=s) (r:=⟨0,0⟩) (most:=30) (by decide);have ac:=Yj (z:=0) (s:=s) (r:=⟨0,0⟩) (most:=30) (Nat.zero_le _);rw[<-QV]at q ac;have a:=Lv (Ak7 s);obtain⟨⟨c,r1⟩,hc⟩:∃p,p=Qo s ⟨0,0⟩ 30:=⟨_,rfl⟩;rw[<-hc]at h3 q ac a|-;clear hc;dsimp only at h3 q ac a|-;obtain⟨m,rfl⟩:=LA q.1;rw[L0]at a;have hm:(m:Int)<=30:=q.2;obtain⟨o,aj⟩:∃o,o=w3.heap.size:=⟨_,rfl⟩;have lD:D<o:=by rw[aj];exact ax.lt
 have HL:Hid (DgL s r1 R g D o 0 w w3 (.slice none 0 0)):=Lv ⟨h3,ax,bk,World.ownsRow_nil _ _ _ _,b3,LI aj⟩;have a2:=Lv ac;clear aj h3 ax bk b3 q ac e3 bc ay av a9;go_wp2_with fail
 go_loopw [12] (λi wr=>∃(k:Nat) (v:Value),i=.int .i64 (k:Int)/\k<=m/\Hid (DgL s r1 R g D o k w wr v)) (λi _=>m-(intOf i).toNat)
 case atStart=>exact⟨0,_,rfl,Nat.zero_le _,HL⟩
 case round=>
  clear HL;obtain⟨k,v,rfl,hk,HL⟩:=hrel;by_cases bt:k<m
  ·have bz:(k:Int)<(m:Int):=by omega
   go_wp2_with fail
   obtain⟨i0,bs,bv,bw,bx⟩:=info_parts Ju;obtain⟨h1,h2,h3,h4,h5,h6⟩:=HL.out;have ad:=Aa1 (z:=0) (most:=200) a2.out k;have ak:=Ec (z:=0) (most:=200) (s:=s) (r:=r1) k;obtain⟨Vd,ar⟩:∃Vd,Vd=wr.drew:=⟨_,rfl⟩;have bd:Below wr.heap.size wr Vd:=by rw[ar];exact St.drew (S:=λW=>Below wr.heap.size wr W) (Below.refl _ _)
   replace h1:=h1.go bd;replace h2:=h2.below bd h2.lt;replace h3:=h3.below bd h3.lt;replace h4:=QU h4 bd;replace h5:=h5.trans (bd.mono h5.size);replace h6:o<=Vd.heap.size:=Lj h6 bd.size;clear HL;obtain⟨S2,ai⟩:∃S2,S2=(λW=>Row W D 91 #[v,.int .i64 0,.int .i64 0]/\Below w.heap.size w W):=⟨_,rfl⟩;have U0:Hid (∀W,S2 W->Row W D 91 #[v,.int .i64 0,.int .i64 0]):=by show ∀W,_;rw[ai];exact λW h=>h.1
   have U1:Hid (∀W,Row W D 91 #[v,.int .i64 0,.int .i64 0]->Below w.heap.size w W->S2 W):=by show ∀W,_;rw[ai];exact λW h h2=>⟨h,h2⟩
   clear ai;have bq:S2 Vd:=U1.out _ h2 h5;refine Aha ?_;refine J2 (last:=7) (S:=S2) (by kernel_rfl) ?_;simp only[Ly,Le,Ll,Nat.reduceAdd,Ln,Lp,Lz,Lu,Lk];rw[<-ar];clear ar bd;(refine Zr (i:=0) (v:=.pointer (some ⟨D,0,none⟩)) rfl (by kernel_rfl) (by kernel_rfl) (by kernel_rfl) (by kernel_rfl) (λ_ _ _ h=>h) (QB (Qd rfl (λW hW=>by(go_simp)))) (by assumption) ?_;simp only[Act.put,Qa,Qb,Qc]);(refine Zr (i:=1) (v:=v) rfl (by kernel_rfl) (by kernel_rfl) (by kernel_rfl) (by kernel_rfl) (λ_ _ _ h=>h) (QB (Qd rfl (λW hW=>by((have c:=(U0.out W hW).cellv (i:=0) (v:=v) rfl;go_simp))))) (by assumption) ?_;simp only[Act.put,Qa,Qb,Qc]);(refine Zr (i:=2) (v:=.pointer (some ⟨g,0,none⟩)) rfl (by kernel_rfl) (by kernel_rfl) (by kernel_rfl) (by kernel_rfl) (λ_ _ _ h=>h) (QB (Qd rfl (λW hW=>by(go_simp)))) (by assumption) ?_;simp only[Act.put,Qa,Qb,Qc]);(refine Qp (rs:=[3]) (by kernel_rfl) (by simp) (λi hi=>?_);obtain rfl:i=3:=by simpa using hi);refine Qg rfl rfl (λK2 b=>?_);refine Qm 148 #[.pointer (some ⟨g,0,none⟩),.int .i64 200] (w1:=Vd) (by go_simp) ((Zi g s (ZQ 0 200 s r1 k).2 200 ad Hs.out (by omega) (by omega) Vd h1).mono ?_);rintro e V3 ⟨rfl,q1,e3⟩;refine⟨_,rfl,?_⟩;refine b _ _ ?_;clear b K2;simp only[Act.put,Qa,Qb,Qc];have q2:=e3.row h2 (by omega);have q3:=e3.row h3 (by omega);have q4:=Yi h4 e3 (by omega);have q5:=h5.trans (e3.below (show w.heap.size<=g by omega) h5.size);have q6:o<=V3.heap.size:=Lj h6 e3.size;clear h1 h2 h3 h4 h5 h6 bq e3;refine⟨λ_=>U1.out _ q2 q5,?_⟩;have aa:Hid ((ZQ 0 200 s r1 (k+1)).1=(ZQ 0 200 s r1 k).1++[(Qo s (ZQ 0 200 s r1 k).2 200).1]/\(ZQ 0 200 s r1 (k+1)).2=(Qo s (ZQ 0 200 s r1 k).2 200).2):=Lv ⟨rfl,rfl⟩;obtain⟨⟨x,r2⟩,hx⟩:∃p,p=Qo s (ZQ 0 200 s r1 k).2 200:=⟨_,rfl⟩;rw[<-hx]at q1 aa|-;clear hx;dsimp only at q1 aa|-;have bu:∀W:World,(Instr.buildSlice 22 1 #[(0,.int .i64 x)]).run Tryz.prog W=.ok (.slice (some ⟨W.heap.size,0,none⟩) 1 1) (W.alloc (.cells #[.int .i64 x] 3)):=λW=>by kernel_rfl
   (refine Qp (rs:=[4]) (by kernel_rfl) (by simp) (λi hi=>?_);obtain rfl:i=4:=by simpa using hi);refine Qg rfl rfl (λK2 b=>?_);refine Qr (.slice (some ⟨V3.heap.size,0,none⟩) 1 1) (w1:=V3.alloc (.cells #[.int .i64 x] 3)) (by go_simp) ?_;refine b _ _ ?_;clear b K2 bu;simp only[Act.put,Qa,Qb,Qc];obtain⟨M,hM⟩:∃M,M=V3.heap.size:=⟨_,rfl⟩;obtain⟨V4,an⟩:∃V4,V4=V3.alloc (.cells #[.int .i64 x] 3):=⟨_,rfl⟩;have rM:Row V4 M 3 #[.int .i64 x]:=by rw[an,hM];exact Row.new _ _ _
   have bM:Below V3.heap.size V3 V4:=by rw[an];exact(Below.refl _ _).alloc (Nat.le_refl _) _
   rw[<-hM, <-an];clear hM an;replace q1:=q1.go bM;replace q2:=q2.below bM q2.lt;replace q3:=q3.below bM q3.lt;replace q4:=QU q4 bM;replace q5:=q5.trans (bM.mono q5.size);replace q6:o<=V4.heap.size:=Lj q6 bM.size;refine⟨λ_=>U1.out _ q2 q5,?_⟩;obtain⟨v',V5,ao,ae,g5,_,br⟩:=run_append_own_at (P:=Tryz.prog) V4 o 22 22 3 i0 (.int .i64 0) 1 8 Tryz.underlying22 bs bv bw bx rfl (by decide) v k (Qj (ZQ 0 200 s r1 k).1) q4 ⟨M,0,none⟩ 1 1 (Qj [x]) rfl (by rintro(_|j) u hu;simp[Qj]at hu;subst hu;exact rM.cellv rfl;simp[Qj]at hu) (by simp[Qj,Value.oneCell']) (by unfold maxLen;omega) (by omega) q6;have bf:=QK q4 q2 (by decide);have bg:=QK q4 q3 (by decide);have bh:=QK q4 q1 (by decide);have p1:RdO V5 g s r2:=Row.grown q1 g5 bh;have p2:=q2.grown g5 bf;have p3:=q3.grown g5 bg;have p5:=QJ q5 q4 g5 (by have:=q5.size;omega) (by omega);have p6:o<=V5.heap.size:=Lj q6 g5.size;have rn:Qj (ZQ 0 200 s r1 k).1++Qj [x]=Qj (ZQ 0 200 s r1 (k+1)).1:=by rw[aa.out.1];simp[Qj]
   rw[rn]at ae;(refine Qp (rs:=[5]) (by kernel_rfl) (by simp) (λi hi=>?_);obtain rfl:i=5:=by simpa using hi);refine Qg rfl rfl (λK2 b=>?_);refine Qr _ (QF rfl ao) ?_;refine b _ _ ?_;clear b K2 ao;simp only[Act.put,Qa,Qb,Qc];have a4:=U1.out _ p2 p5;refine⟨λ_=>a4,?_⟩;(refine Zr (i:=6) (v:=.pointer (some ⟨D,0,none⟩)) rfl (by kernel_rfl) (by kernel_rfl) (by kernel_rfl) (by kernel_rfl) (λ_ _ _ h=>h) (QB (Qd rfl (λW hW=>by(go_simp)))) (by assumption) ?_;simp only[Act.put,Qa,Qb,Qc]);obtain⟨A',m',c',rfl⟩:∃A m c,v'=.slice A m c:=Ji ae;have f5:=p2.free 0;have c5:=p2.cellv (i:=0) (v:=v) rfl;have bi:=QK ae p2 (by decide);have o6:=Qu V5 D 0 (.slice A' m' c');have HN:Hid (DgL s r1 R g D o (k+1) w (V5.setCell ⟨D,0,none⟩ (.slice A' m' c')) (.slice A' m' c')):=Lv ⟨by rw[aa.out.2];exact Row.only p1 o6 (by omega),p2.set 0 _,p3.only o6 (by omega),Za ae o6 bi,Ql p5 o6 (by omega),by rw[o6.size];exact p6⟩;(refine Qp (rs:=[7]) (by kernel_rfl) (by simp) (λi hi=>?_);obtain rfl:i=7:=by simpa using hi);refine Qg rfl rfl (λK2 b=>?_);unfold Oper.wp;clear rM bM q1 q2 q3 q4 q5 q6 ae g5 br bf bg bh bi p1 p2 p3 p5 p6 rn o6 hi ad ak a4;go_simp
   refine b _ _ ?_;clear b K2;simp only[Qa,Qb,Qc];refine⟨λh=>absurd rfl h,?_⟩;refine Zv (by kernel_rfl) ?_ _;refine JW ?_;go_wp2_with fail
   refine⟨⟨k+1,_,by(first|go_num|simp),by omega,HN⟩,?_⟩
   simp[intOf];omega
  ·obtain rfl:k=m:=by omega
   clear bt hk;obtain⟨h1,h2,h3,h4,h5,h6⟩:=HL.out;have ad:=Aa1 (z:=0) (most:=200) a2.out k;have ak:=Ec (z:=0) (most:=200) (s:=s) (r:=r1) k;obtain⟨A,ab,rfl,am,bm,bo,a3,bp⟩:=AlG h4;obtain⟨⟨l,r2⟩,hl⟩:∃p,p=ZQ 0 200 s r1 k:=⟨_,rfl⟩;rw[<-hl]at h1 am ad ak a;dsimp only at h1 am ad ak a
   have a5:∀op n,DlT wr ⟨A,ab,⟨l,op,n⟩⟩:=λop n=>⟨⟨am,by show l.length<=1000000;omega⟩,K3 h4,λe=>by
    have:=a3 e
    exact L3 (by show l.length=0;omega)⟩
   have hT:=Lv a5;clear hl h4 HL bm bo a3 bp am a5;subst ak;go_wp2_with fail
   refine(KX g s r2 ad Hs.out wr h1).mono ?_;rintro e w5 ⟨rfl,q1,e5⟩;have aw:=KI (s:=s) (r:=r2) ad;have a8:=K5 s r2;obtain⟨⟨bn,r3⟩,hb⟩:∃p,p=QR s r2:=⟨_,rfl⟩;rw[<-hb]at q1 aw a8 a|-;clear hb;dsimp only at q1 aw a8 a|-;have q2:=e5.row h2 (by omega);have q3:=e5.row h3 (by omega);have q5:=h5.trans (e5.below (show w.heap.size<=g by omega) h5.size);have a6:∀op n,DlT w5 ⟨A,ab,⟨l,op,n⟩⟩:=λop n=>(hT.out op n).eff h1 e5;clear h1 h2 h3 h5 e5 hT h6 ad;have az:=Lv a6;clear a6;go_wp2_with fail
   refine(Vm g s r3 aw Hs.out w5 q1).mono ?_;rintro e w6 ⟨rfl,p1,e6⟩;have al:=E7 s r3;obtain⟨⟨n,r4⟩,hb⟩:∃p,p=JH s r3:=⟨_,rfl⟩;rw[<-hb]at p1 al a|-;clear hb;dsimp only at p1 al a|-;have p2:=e6.row q2 (by omega);have p3:=e6.row q3 (by omega);have p5:=q5.trans (e6.below (show w.heap.size<=g by omega) q5.size);have a7:DlT w6 ⟨A,ab,⟨l,(bn:Int),n⟩⟩:=(az.out _ _).eff q1 e6;clear q1 q2 q3 q5 e6 az p1;have f1:=p2.free 1;have f2:=p2.free 2;have c1:=p2.cellv (i:=1) (v:=.int .i64 0) rfl;have c2:=p2.cellv (i:=2) (v:=.int .i64 0) rfl;have af:Row ((w6.setCell ⟨D,1,none⟩ (.int .i64 (bn:Int))).setCell ⟨D,2,none⟩ (.int .i64 n)) D 91 #[.slice A l.length ab,.int .i64 (bn:Int),.int .i64 n]:=(p2.set 1 _).set 2 _;have o1:=Qu w6 D 1 (.int .i64 (bn:Int));have o2:=Qu (w6.setCell ⟨D,1,none⟩ (.int .i64 (bn:Int))) D 2 (.int .i64 n);have bl:=(p3.only o1 (by omega)).only o2 (by omega);have aq:=(a7.only p2 (by decide) o1).only (p2.set 1 _) (by decide) o2;have p7:=Ql (Ql p5 o1 (by omega)) o2 (by omega);have HC:=Lv (Ab8 ⟨A,ab,⟨l,(bn:Int),n⟩⟩ _ aq.ok al);clear o1 o2 p2 p3 p5 a7;have a0:=Lv aq;have R6:=Lv bl;have P7:=Lv p7;clear aq bl p7;go_wp2_with (refine wpList_load_row rfl 91 _ rfl D rfl 91 #[.slice A l.length ab,.int .i64 (bn:Int),.int .i64 n] (0,0) _ af Tryz.underlying91 rfl (by kernel_rfl) ?_)
   by_cases hr:Zg ⟨l,(bn:Int),n⟩=true/\Q9 ⟨l,(bn:Int),n⟩=s
   ·have hp:Us ⟨l,(bn:Int),n⟩=(s,0):=by rw[Us,if_pos hr.1,hr.2]
    rw[hp]at HC;have Hg:=Lv (Acm al hr.1 hr.2);clear hr hp;refine HC.out.mono ?_;rintro e w8 ⟨rfl,b8⟩;have bj:=af.below b8 af.lt;have ag:=R6.out.below b8 R6.out.lt;have p8:=P7.out.trans (b8.mono P7.out.size);have a1:=Lv (a0.out.go b8);clear b8 HC af c1 c2 f1 f2;go_wp2_with (first| (refine wpList_load_row rfl 91 _ rfl D rfl 91 #[.slice A l.length ab,.int .i64 (bn:Int),.int .i64 n] (0,0) _ bj Tryz.underlying91 rfl (by kernel_rfl) ?_)| (refine Qk _ _ _ rfl ?_))
    refine Stop.to ?_;refine Qh rfl 91 _ _ rfl R #[.slice A l.length ab,.int .i64 (bn:Int),.int .i64 n] rfl rfl 91 _ ag (by kernel_rfl) rfl (by simp[Value.oneCell']) ?_;intro w9 r9 o9;go_wp2_with fail
    try rw[Exit.noGoto_ret]
    refine bodyPost_ret (Qv Tryz.results228 _ _ R 91 _ (0,0) _ rfl r9 Tryz.underlying91 rfl (by kernel_rfl)) rfl ?_;exact⟨⟨A,ab,⟨l,(bn:Int),n⟩⟩,by rw[Hg.out],by rw[Hg.out];rfl,a1.out.only ag (by decide) o9,Ql p8 o9 (by omega),al⟩
   ·have Hg:=Lv (Ajp (s:=s) (d:=⟨l,(bn:Int),n⟩) (λd0 h1 h2 h3=>by rw[<-a.out, <-h3];exact Aaz h1 h2) hr);obtain⟨⟨t,e0⟩,hp⟩:∃p,p=Us ⟨l,(bn:Int),n⟩:=⟨_,rfl⟩;rw[<-hp]at HC
    have ba:¬(e0=0/\t=s):=λh=>hr (by
     unfold Us at hp
     by_cases h1:Zg ⟨l,(bn:Int),n⟩=true
     ·rw[if_pos h1]at hp;injection hp with hp1 _;exact⟨h1,by rw[<-hp1,h.2]⟩
     ·rw[if_neg h1]at hp;injection hp with _ hp2;rw[h.1]at hp2;exact absurd hp2 (by decide))
    have be:e0=0->(t==s)=false:=λh0=>by simpa using λe=>ba ⟨h0,e⟩
    have ap:=Lv be;clear hr hp ba be;refine HC.out.mono ?_;rintro e w8 ⟨rfl,b8⟩;have bj:=af.below b8 af.lt;have ag:=R6.out.below b8 R6.out.lt;have p8:=P7.out.trans (b8.mono P7.out.size);have a1:=Lv (a0.out.go b8);clear b8 HC af c1 c2 f1 f2;have b1:(Instr.build 91 #[]).run Tryz.prog w8=.ok (.agg #[.slice none 0 0,.int .i64 0,.int .i64 0]) w8:=by kernel_rfl
    have HZ:DlT w8 ⟨none,0,⟨[],0,0⟩⟩:=⟨⟨Rd.nil _ _,by simp⟩,λ_ h=>(by cases h),λ_=>rfl⟩;by_cases he:e0=0
    ·have b0:=ap.out he;subst he;clear ap;go_wp2_with (first| (refine Qk _ _ _ rfl ?_))
     refine Stop.to ?_;refine Qh rfl 91 _ _ rfl R #[.slice none 0 0,.int .i64 0,.int .i64 0] rfl rfl 91 _ ag (by kernel_rfl) rfl (by simp[Value.oneCell']) ?_;intro w9 r9 o9;go_wp2_with fail
     try rw[Exit.noGoto_ret]
     refine bodyPost_ret (Qv Tryz.results228 _ _ R 91 _ (0,0) _ rfl r9 Tryz.underlying91 rfl (by kernel_rfl)) rfl ?_;exact⟨⟨none,0,⟨[],0,0⟩⟩,by rw[Hg.out],by rw[Hg.out];rfl,HZ.only ag (by decide) o9,Ql p8 o9 (by omega),⟨by decide,by decide⟩⟩
    ·clear ap;go_wp2_with (first| (refine Qk _ _ _ rfl ?_))
     refine Stop.to ?_;refine Qh rfl 91 _ _ rfl R #[.slice none 0 0,.int .i64 0,.int .i64 0] rfl rfl 91 _ ag (by kernel_rfl) rfl (by simp[Value.oneCell']) ?_;intro w9 r9 o9;go_wp2_with fail
     try rw[Exit.noGoto_ret]
     refine bodyPost_ret (Qv Tryz.results228 _ _ R 91 _ (0,0) _ rfl r9 Tryz.underlying91 rfl (by kernel_rfl)) rfl ?_;exact⟨⟨none,0,⟨[],0,0⟩⟩,by rw[Hg.out],by rw[Hg.out];rfl,HZ.only ag (by decide) o9,Ql p8 o9 (by omega),⟨by decide,by decide⟩⟩
end Go.Proofs.YtgnmkiafeplbpaaGreatDoor
namespace Go.Proofs.YtgnmkiafeplbpaaGreatDoor
open Go.RowKit Go.Deep
def scS (s:List UInt8):Nat->List Int×Rs
 |0=>([0,0,0],⟨0,0⟩)
 |k+1=>((scS s k).1.set k (Qo s (scS s k).2 2000).1,(Qo s (scS s k).2 2000).2)
theorem Ag2 (s:List UInt8):∀k,(scS s k).1.length=3
 |0=>rfl
 |k+1=>by rw[scS,List.length_set,Ag2 s k]
theorem Aj7 (s:List UInt8):∀k,(scS s k).2.pl<=s.length
 |0=>Nat.zero_le _
 |k+1=>by
  rw[scS]
  have:=Yj (z:=0) (most:=2000) (Aj7 s k)
  rwa[<-QV]at this
theorem AmU (s:List UInt8):(scS s 3).1=(Ej s).ns:=rfl
theorem Ajz (l:List Int)(k:Nat)(n:Int):(Qj l).toArray.setIfInBounds k (.int .i64 n)=(Qj (l.set k n)).toArray:=by simp[Qj]
theorem Adb (s:List UInt8)(w:World)(hs:s.length<=1000000):
 Calls Tryz.prog 115 #[.string ⟨s.toArray⟩] w λe w'=>e=.returned (.tuple #[.agg (YH s).1.cells,.int .i64 (YH s).2])/\Below w.heap.size w w':=by
 have Hs:=Lv hs;obtain⟨pd,ab⟩:∃p,p=YH s:=⟨_,rfl⟩;have ac:=Lv ab;rw[<-ab];clear hs ab;go_enter Tryz.func115,Tryz.ntmps115
 go_wp2_with (first|fail| (refine Qs _ rfl ?_))
 refine Stop.to ?_;refine Qi rfl 29 rfl _ _ (Yo _) rfl ?_;intro R Rw Rh Rr Rb;go_wp2_with fail
 refine(X9 s Rw).mono ?_;rintro e w2 ⟨g,rfl,a,b2,hg⟩;go_wp2_with (first|fail| (refine Qs _ rfl ?_))
 refine Stop.to ?_;refine Qi rfl 29 rfl _ _ (Yo _) rfl ?_;intro D Dw Dh Dr Db;have c:Row Rw R 29 #[.int .i64 0,.int .i64 0,.int .i64 0]:=Rr;have b:Row Dw D 29 (Qj [0,0,0]).toArray:=Dr;have ao:R<g:=Lg c.lt hg;have ap:g<D:=Lg (Row.lt a) Dh;have ae:=c.below b2 c.lt;have n:=ae.below Db (by omega);have m:=a.go (Db.mono Dh);have z:Below w.heap.size w w2:=((Below.refl w.heap.size w).trans (Rb.mono Rh)).trans (b2.mono (by have:=c.lt;omega));have d:Below w.heap.size w Dw:=z.trans (Db.mono (by have:=z.size;omega));have ah:w.heap.size<=g:=by omega
 clear Rr Dr Rb b2 a hg Db ae c z;go_wp2_with (refine QY _ _ _ rfl ?_)
 refine Stop.to ?_;refine Qw rfl 223 3 _ rfl 222 #[.pointer (some ⟨D,0,none⟩),.pointer (some ⟨D,1,none⟩),.pointer (some ⟨D,2,none⟩)] (λW=>by kernel_rfl) ?_;intro L Lw Lh Lr Lb;have an:D<L:=Lg b.lt Lh;replace b:=b.below Lb (by omega);replace n:=n.below Lb (by omega);replace m:=m.go (Lb.mono Lh);replace d:=d.trans (Lb.mono (by have:=d.size;omega));clear Lb Lh Dh;go_wp2_with fail
 go_loopw [17] (λi wr=>∃k:Nat,i=.int .i64 (k:Int)/\k<=3/\RdO wr g s (scS s k).2/\Row wr D 29 (Qj (scS s k).1).toArray/\Row wr R 29 #[.int .i64 0,.int .i64 0,.int .i64 0]/\Row wr L 222 #[.pointer (some ⟨D,0,none⟩),.pointer (some ⟨D,1,none⟩),.pointer (some ⟨D,2,none⟩)]/\Below w.heap.size w wr) (λi _=>3-(intOf i).toNat)
 case atStart=>exact⟨0,rfl,Nat.zero_le _,m,b,n,Lr,d⟩
 case round=>
  clear m b n Lr d;obtain⟨k,rfl,hk,y,a,q,h4,l⟩:=hrel;by_cases aa:k<3
  ·have hc:wr.cell? ⟨L,k,none⟩=some (.pointer (some ⟨D,k,none⟩)):=h4.cellv (by
     match k,aa with
     |0,_|1,_|2,_=>rfl)
   have ai:(k:Int)<3:=by omega
   go_wp2_with fail
   refine(Zi g s (scS s k).2 2000 (Aj7 s k) Hs.out (by omega) (by omega) wr y).mono ?_;rintro e w5 ⟨rfl,q1,e5⟩;have q2:=e5.row a (by omega);have q3:=e5.row q (by omega);have q4:=e5.row h4 (by omega);have q5:=l.trans (e5.below ah l.size);obtain⟨x0,ag⟩:∃x,(scS s k).1[k]? =some x:=⟨_,Ld (by rw[Ag2];exact aa)⟩;have aj:w5.cell? ⟨D,k,none⟩=some (.int .i64 x0):=q2.cellv (by simp[Qj,ag]);have ak:=q2.free k;have o5:=Qu w5 D k (.int .i64 (Qo s (scS s k).2 2000).1);have p2:=q2.set k (.int .i64 (Qo s (scS s k).2 2000).1);rw[Ajz]at p2;have P1:=Lv (Row.only q1 o5 (by omega));have P2:=Lv p2;have P3:=Lv (q3.only o5 (by omega));have P4:=Lv (q4.only o5 (by omega));have P5:=Lv (Ql q5 o5 (by omega));clear y a q h4 l hc e5 q1 q2 q3 q4 q5 ag o5 p2;go_wp2_with fail
   go_roundw
   case rel=>exact⟨k+1,by go_num,by omega,P1.out,P2.out,P3.out,P4.out,P5.out⟩
   case measure=>simp[intOf];omega
  ·obtain rfl:k=3:=by omega
   rw[AmU]at a;have HP:=Lv (Vf (Ej s) wr);clear aa hk y h4;go_wp2_with (refine wpList_load_row rfl 29 _ rfl D rfl 29 (Qj (Ej s).ns).toArray (0,0) _ a Tryz.underlying29 rfl (by kernel_rfl) ?_)
   by_cases u:Ea (Ej s)/\Kj (Ej s)=s
   ·have j:EI (Ej s)=(s,0):=by rw[EI,if_pos u.1,u.2]
    rw[j]at HP;obtain rfl:pd=(Ej s,0):=ac.out.trans (Jf Abl u.1 u.2);clear u j;refine HP.out.mono ?_;rintro e w8 ⟨rfl,o⟩;have d8:=a.below o a.lt;have r8:=q.below o q.lt;have p8:=l.trans (o.mono l.size);clear o HP a q l;go_wp2_with (first| (refine wpList_load_row rfl 29 _ rfl D rfl 29 (Qj (Ej s).ns).toArray (0,0) _ d8 Tryz.underlying29 rfl (by kernel_rfl) ?_)| (refine Qk _ _ _ rfl ?_))
    refine Stop.to ?_;refine Qh rfl 29 _ _ rfl R (Qj (Ej s).ns).toArray rfl rfl 29 _ r8 (by kernel_rfl) rfl (by simp[Qj,Sc.ns,Value.oneCell']) ?_;intro w9 r9 o9;go_wp2_with fail
    try rw[Exit.noGoto_ret]
    refine bodyPost_ret (Qv Tryz.results115 _ _ R 29 _ (0,0) _ rfl r9 Tryz.underlying29 rfl (by kernel_rfl)) rfl ?_;exact⟨rfl,Ql p8 o9 (by omega)⟩
   ·obtain rfl:pd=(⟨0,0,0⟩,12):=ac.out.trans (XT Abl u);obtain⟨⟨t,e0⟩,j⟩:∃p,p=EI (Ej s):=⟨_,rfl⟩;rw[<-j]at HP
    have ad:¬(e0=0/\t=s):=λh=>u (by
     unfold EI at j
     by_cases y:Ea (Ej s)
     ·rw[if_pos y]at j;injection j with hp1 _;exact⟨y,by rw[<-hp1,h.2]⟩
     ·rw[if_neg y]at j;injection j with _ hp2;rw[h.1]at hp2;exact absurd hp2 (by decide))
    have af:e0=0->(t==s)=false:=λh0=>by simpa using λe=>ad ⟨h0,e⟩
    have v:=Lv af;clear u j ad af;refine HP.out.mono ?_;rintro e w8 ⟨rfl,o⟩;have r8:=q.below o q.lt;have p8:=l.trans (o.mono l.size);clear o HP a q l;have am:(Instr.build 29 #[]).run Tryz.prog w8=.ok (.agg #[.int .i64 0,.int .i64 0,.int .i64 0]) w8:=by kernel_rfl
    by_cases he:e0=0
    ·have al:=v.out he;subst he;clear v;go_wp2_with (first| (refine Qk _ _ _ rfl ?_))
     refine Stop.to ?_;refine Qh rfl 29 _ _ rfl R #[.int .i64 0,.int .i64 0,.int .i64 0] rfl rfl 29 _ r8 (by kernel_rfl) rfl (by simp[Value.oneCell']) ?_;intro w9 r9 o9;go_wp2_with fail
     try rw[Exit.noGoto_ret]
     refine bodyPost_ret (Qv Tryz.results115 _ _ R 29 _ (0,0) _ rfl r9 Tryz.underlying29 rfl (by kernel_rfl)) rfl ?_;exact⟨rfl,Ql p8 o9 (by omega)⟩
    ·clear v;go_wp2_with (first| (refine Qk _ _ _ rfl ?_))
     refine Stop.to ?_;refine Qh rfl 29 _ _ rfl R #[.int .i64 0,.int .i64 0,.int .i64 0] rfl rfl 29 _ r8 (by kernel_rfl) rfl (by simp[Value.oneCell']) ?_;intro w9 r9 o9;go_wp2_with fail
     try rw[Exit.noGoto_ret]
     refine bodyPost_ret (Qv Tryz.results115 _ _ R 29 _ (0,0) _ rfl r9 Tryz.underlying29 rfl (by kernel_rfl)) rfl ?_;exact⟨rfl,Ql p8 o9 (by omega)⟩
end Go.Proofs.YtgnmkiafeplbpaaGreatDoor
