/- Lemmas for ArAll. -/
import Derived.Test.YtgnmkiafeplbpaaGreatDoorZf26
import Derived.Test.YtgnmkiafeplbpaaGreatDoorZf27
import Derived.Test.YtgnmkiafeplbpaaGreatDoorZf22
import Derived.Test.YtgnmkiafeplbpaaGreatDoorZf1
import Derived.Test.YtgnmkiafeplbpaaGreatDoorZf21
import Derived.Test.YtgnmkiafeplbpaaGreatDoorZf24
set_option linter.unusedVariables false
set_option linter.unusedSimpArgs false
set_option maxRecDepth 100000
set_option maxHeartbeats 16000000
namespace Go.Proofs.YtgnmkiafeplbpaaGreatDoor
open Go.RowKit Go.Deep
theorem RdEff.only{g D:Nat}{w W W':World}(h:RdEff g w W)(o:Only D W W')(hD:w.heap.size<=D):RdEff g w W':=
 ⟨o.os.trans h.os,o.tape.trans h.tape,o.output.trans h.output,by rw[o.size];exact h.size,λk hk hne=>(o.block k (by omega)).trans (h.block k hk hne)⟩
theorem MtT.eff{w w':World}{x:MtV}{g:Nat}{s:List UInt8}{r:Rs}(h:MtT w x)(hg:RdO w g s r)(e:RdEff g w w'):MtT w' x:=
 h.same λa cs _ k=>e.row k (λe2=>by
  rw[e2]at k
  have h1:w.heap[g]? =_:=k
  rw[show w.heap[g]? =_ from hg]at h1
  injection h1 with h1
  injection h1 with _ h1
  exact absurd h1 (by decide))
theorem AeP{s:List UInt8}{r:Rs}{most:Int}(h:r.pl<=s.length):(JI s r most).2.pl<=s.length:=by
 unfold JI;have a:=Y7 (s:=s) (pl:=r.pl) most h;split
 ·refine Vz h λe=>?_
  unfold J1 at e|-;split
  ·rename_i a;rw[if_pos a]at e;exact absurd (show(2:Int)=0 from e) (by decide)
  ·dsimp only;omega
 ·exact Vz h λ_=>a
theorem Aia (s:List UInt8)(r:Rs)(most:Int):(JI s r most).1.length<=s.length:=by
 unfold JI J1 Rs.step
 repeat' split
 all_goals(simp only[LH,LN,Ll];omega)
theorem Aj1 (s:List UInt8)(r:Rs)(n:Nat):(Z4 s r n).1.length<=s.length:=by
 unfold Z4 J1 Rs.step
 repeat' split
 all_goals(simp only[LH,LN,Ll];omega)
theorem Vh{s:List UInt8}{r:Rs}(h:r.pl<=s.length):(JH s r).2.pl<=s.length:=Vz h λ_=>by
 have:=Aef (s.drop r.pl)
 simp only[LN]at this
 dsimp only
 omega
theorem Jj{s:List UInt8}{r:Rs}{most:Int}(h:r.pl<=s.length):(Qo s r most).2.pl<=s.length:=Yj (z:=0) h
structure MtGot (s:List UInt8)(r:Rs)(g:Nat)(w w':World)(e:Ending)(y:MtV):Prop where
 e:e=.returned (.agg y.cells.toArray)
 m:y.m=(UE s r).1
 t:MtT w' y
 rd:RdO w' g s (UE s r).2
 eff:RdEff g w w'
 n:InI y.m.d.n
 v:InI y.m.value
theorem Al6{W:World}{y:DlV}(h:DlT W y)(v t k u:Int)(g:List UInt8)(hg:g.length<=1000000):MtT W ⟨y.A,y.cap,⟨y.d,v,t,k,u,g⟩⟩:=
 ⟨⟨h.ok.rd,h.ok.len,h.nil,hg⟩,h.ib⟩
theorem AgK (s:List UInt8)(r:Rs):UE s r=if (QR s (JI s r 1048576).2).1=0 then(⟨(Yp (JI s r 1048576).1).1,0, -1,0,0,[]⟩,(QR s (JI s r 1048576).2).2)else
 (⟨(Yp (JI s r 1048576).1).1,(QR s (JI s r 1048576).2).1,(Qo s (QR s (JI s r 1048576).2).2 20).1,(QR s (Qo s (QR s (JI s r 1048576).2).2 20).2).1,(JH s (QR s (Qo s (QR s (JI s r 1048576).2).2 20).2).2).1,(Z4 s (JH s (QR s (Qo s (QR s (JI s r 1048576).2).2 20).2).2).2 32).1⟩,(Z4 s (JH s (QR s (Qo s (QR s (JI s r 1048576).2).2 20).2).2).2 32).2):=by rw[UE]
theorem AhY (g:Nat)(s:List UInt8)(r:Rs)(w:World)(hp:r.pl<=s.length)(hs:s.length<=1000000)(h:RdO w g s r):
 Calls Tryz.prog 183 #[.pointer (some ⟨g,0,none⟩)] w λe w'=>∃y,MtGot s r g w w' e y:=by
 have Hs:=Lv hs;have Hp:=Lv hp;have a:=Lv (AgK s r);obtain⟨cb,ab⟩:∃p,p=UE s r:=⟨_,rfl⟩
 have ax:Hid (∀w' e y,(e=.returned (.agg y.cells.toArray)/\y.m=cb.1/\MtT w' y/\RdO w' g s cb.2/\RdEff g w w'/\InI y.m.d.n/\InI y.m.value)->∃y,MtGot s r g w w' e y):=Lv (by
  rintro w' e y ⟨h1,h2,h3,h4,h5,h6,h7⟩
  rw[ab]at h2 h4
  exact⟨y,h1,h2,h3,h4,h5,h6,h7⟩)
 rw[<-ab]at a;clear hs hp ab;go_enter Tryz.func183,Tryz.ntmps183
 go_wp2_with (first|fail| (refine Qs _ rfl ?_))
 refine Stop.to ?_;refine Qi rfl 95 rfl _ _ (Ahc _) rfl ?_;intro R Rw Rh Rr Rb;have cl:(Instr.build 95 #[(2,.int .i64 (-1))]).run Tryz.prog Rw=.ok (.agg #[.slice none 0 0,.int .i64 0,.int .i64 0,.int .i64 0,.int .i64 (-1),.int .i64 0,.int .i64 0,.string ByteArray.empty]) Rw:=by kernel_rfl
 go_wp2_with (first|fail| (refine Qs _ rfl ?_))
 refine Stop.to ?_;refine Qi rfl 95 rfl _ _ (Ahc _) rfl ?_;intro D Dw Dh Dr Db;go_wp2_with (refine Qk _ _ _ rfl ?_)
 refine Stop.to ?_;refine Qh rfl 95 _ _ rfl D #[.slice none 0 0,.int .i64 0,.int .i64 0,.int .i64 0,.int .i64 (-1),.int .i64 0,.int .i64 0,.string ByteArray.empty] rfl rfl 95 _ Dr (by kernel_rfl) rfl (by simp[Value.oneCell']) ?_;intro Dx Ds Do;have Dc:=(Db.mono Dh).trans (Do.below Dh);clear Db Dr Do;have aa:Row Rw R 95 #[.slice none 0 0,.int .i64 0,.int .i64 0,.int .i64 0,.int .i64 0,.int .i64 0,.int .i64 0,.string ByteArray.empty]:=Rr;have cw:R<D:=Lg aa.lt Dh;have cx:g<R:=Lg (Row.lt h) Rh;have x:w.heap.size<=D:=by omega
 have cc:=aa.below Dc aa.lt;have h2:=(h.go (Rb.mono Rh)).go Dc;have bx:RdEff g w Dx:=RdEff.of_below (((Below.refl w.heap.size w).trans (Rb.mono Rh)).trans (Dc.mono (by have:=aa.lt;omega)));clear Rr aa Rb Dc Dh h cl;go_wp2_with fail
 refine(Aig g s r 1048576 Hp.out Hs.out (by omega) (by omega) Dx h2).mono ?_;rintro e w3 ⟨rfl,h3,c⟩;have bq:=c.row cc (by omega);have bo:=c.row Ds (by omega);have bz:=bx.trans c;clear cc Ds bx h2 c;have an:=Lv (AeP (most:=1048576) Hp.out);have am:=Lv (Lj (Aia s r 1048576) Hs.out);obtain⟨⟨t,r1⟩,l⟩:∃p,p=JI s r 1048576:=⟨_,rfl⟩;rw[<-l]at h3 a an am|-;clear l;dsimp only at h3 a an am|-;go_wp2_with fail
 refine(Ahy t w3 am.out).mono ?_;rintro e w4 ⟨⟨A,j,⟨b,z,n⟩⟩,gd,rfl,b4,gb,gn⟩;have cd:=bq.below gb bq.lt;have bp:=bo.below gb bo.lt;have h4:=h3.go gb;have b0:=bz.trans (RdEff.of_below gb);have br:=Lv b4;have Gn:=Lv gn;clear bq bo h3 bz gb b4 gn;obtain⟨⟨gl,ge⟩,b6⟩:∃p,p=Yp t:=⟨_,rfl⟩;rw[<-b6]at gd a|-;dsimp only at gd a|-;subst gd;clear b6 am;go_wp2_with (refine Qk _ _ _ rfl ?_)
 refine Stop.to ?_;refine Qt rfl 91 _ _ rfl D 0 rfl (.agg #[.slice A b.length j,.int .i64 z,.int .i64 n]) rfl [.slice A b.length j,.int .i64 z,.int .i64 n] rfl 95 _ #[.slice A b.length j,.int .i64 z,.int .i64 n,.int .i64 0,.int .i64 (-1),.int .i64 0,.int .i64 0,.string ByteArray.empty] bp (by kernel_rfl) (by show 0+3<=8;omega) (by simp[Value.oneCell']) rfl ?_;intro w5 b9 o5;have ce:=cd.only o5 (by omega);have b1:=b0.only o5 x;have h5:=Row.only h4 o5 (by omega);have bt:=Lv (br.out.only bp (by decide) o5);clear bp cd b0 h4 br o5;go_wp2_with fail
 refine(KX g s r1 an.out Hs.out w5 h5).mono ?_;rintro e w6 ⟨rfl,h6,c⟩;have aw:=c.row ce (by omega);have k:=c.row b9 (by omega);have ao:=b1.trans c;have ak:=Lv (bt.out.eff h5 c);clear ce b9 b1 bt h5 c;have ah:=Lv (KI (s:=s) (r:=r1) an.out);have b5:=K5 s r1;obtain⟨⟨bn,r2⟩,l⟩:∃p,p=QR s r1:=⟨_,rfl⟩;rw[<-l]at h6 a ah b5|-;clear l;dsimp only at h6 a ah b5|-;by_cases bl:bn=0
 ·subst bl;rw[if_pos rfl]at a;have av:Row ((w6).setCell ⟨D,3,none⟩ (.int .i64 0)) D 95 #[.slice A b.length j,.int .i64 z,.int .i64 n,.int .i64 0,.int .i64 (-1),.int .i64 0,.int .i64 0,.string ByteArray.empty]:=k.set 3 _;have o7:=Qu (w6) D 3 (.int .i64 0);have ag:=aw.only o7 (by omega);have ap:=ao.only o7 x;have h7:=Row.only h6 o7 (by omega);have al:=Lv (ak.out.only k (by decide) o7);have c7:=k.cellv (i:=3) (v:=.int .i64 0) rfl;have f7:=k.free 3;clear k o7 aw ao h6 ak;go_wp2_with (first| (refine wpList_load_row rfl 95 _ rfl D rfl 95 #[.slice A b.length j,.int .i64 z,.int .i64 n,.int .i64 0,.int .i64 (-1),.int .i64 0,.int .i64 0,.string ByteArray.empty] (0,0) _ av Tryz.underlying95 rfl (by kernel_rfl) ?_)| (refine Qk 95 _ _ rfl ?_))
  refine Stop.to ?_;refine Qh rfl 95 _ _ rfl R #[.slice A b.length j,.int .i64 z,.int .i64 n,.int .i64 0,.int .i64 (-1),.int .i64 0,.int .i64 0,.string ByteArray.empty] rfl rfl 95 _ ag (by kernel_rfl) rfl (by simp[Value.oneCell']) ?_;intro w8 r8 o8;go_wp2_with fail
  refine bodyPost_ret (results_cell_row Tryz.results183 _ _ R 95 _ (0,0) _ rfl r8 Tryz.underlying95 rfl (by kernel_rfl)) rfl ?_;refine ax.out _ _ ⟨A,j,⟨⟨b,z,n⟩,0, -1,0,0,[]⟩⟩ ⟨rfl,by rw[a.out],Al6 (al.out.only ag (by decide) o8) _ _ _ _ _ (by simp),by rw[a.out];exact Row.only h7 o8 (by omega),ap.only o8 Rh,Gn.out,(show InI 0 from⟨by decide,by decide⟩)⟩
 rw[if_neg bl]at a;have cu:¬(bn:Int)=0:=by omega
 have av:Row ((w6).setCell ⟨D,3,none⟩ (.int .i64 (bn:Int))) D 95 #[.slice A b.length j,.int .i64 z,.int .i64 n,.int .i64 (bn:Int),.int .i64 (-1),.int .i64 0,.int .i64 0,.string ByteArray.empty]:=k.set 3 _;have o7:=Qu (w6) D 3 (.int .i64 (bn:Int));have ag:=aw.only o7 (by omega);have ap:=ao.only o7 x;have h7:=Row.only h6 o7 (by omega);have al:=Lv (ak.out.only k (by decide) o7);have c7:=k.cellv (i:=3) (v:=.int .i64 0) rfl;have f7:=k.free 3;clear k o7 aw ao h6 ak;clear bl;go_wp2_with fail
 refine(Zi g s r2 20 ah.out Hs.out (by omega) (by omega) _ h7).mono ?_;rintro e w8 ⟨rfl,h8,c⟩;have cf:=c.row ag (by omega);have af:=c.row av (by omega);have b2:=ap.trans c;have bu:=Lv (al.out.eff h7 c);clear ag av ap al h7 c;have ai:=Lv (Jj (s:=s) (r:=r2) (most:=20) ah.out);obtain⟨⟨ct,r3⟩,l⟩:∃p,p=Qo s r2 20:=⟨_,rfl⟩;rw[<-l]at h8 a ai|-;clear l;dsimp only at h8 a ai|-;have ca:Row ((w8).setCell ⟨D,4,none⟩ (.int .i64 ct)) D 95 #[.slice A b.length j,.int .i64 z,.int .i64 n,.int .i64 (bn:Int),.int .i64 ct,.int .i64 0,.int .i64 0,.string ByteArray.empty]:=af.set 4 _;have o9:=Qu (w8) D 4 (.int .i64 ct);have cg:=cf.only o9 (by omega);have b3:=b2.only o9 x;have h9:=Row.only h8 o9 (by omega);have bv:=Lv (bu.out.only af (by decide) o9);have c9:=af.cellv (i:=4) (v:=.int .i64 (-1)) rfl;have f9:=af.free 4;clear af o9 cf b2 h8 bu;go_wp2_with fail
 refine(KX g s r3 ai.out Hs.out _ h9).mono ?_;rintro e ch ⟨rfl,aq,c⟩;have ba:=c.row cg (by omega);have o:=c.row ca (by omega);have a3:=b3.trans c;have ay:=Lv (bv.out.eff h9 c);clear cg ca b3 bv h9 c;have aj:=Lv (KI (s:=s) (r:=r3) ai.out);have b7:=K5 s r3;obtain⟨⟨kn,r4⟩,l⟩:∃p,p=QR s r3:=⟨_,rfl⟩;rw[<-l]at aq a aj b7|-;clear l;dsimp only at aq a aj b7|-;have a8:Row ((ch).setCell ⟨D,5,none⟩ (.int .i64 (kn:Int))) D 95 #[.slice A b.length j,.int .i64 z,.int .i64 n,.int .i64 (bn:Int),.int .i64 ct,.int .i64 (kn:Int),.int .i64 0,.string ByteArray.empty]:=o.set 5 _;have ac:=Qu (ch) D 5 (.int .i64 (kn:Int));have bb:=ba.only ac (by omega);have a4:=a3.only ac x;have bj:=Row.only aq ac (by omega);have az:=Lv (ay.out.only o (by decide) ac);have cn:=o.cellv (i:=5) (v:=.int .i64 0) rfl;have cq:=o.free 5;clear o ac ba a3 aq ay;go_wp2_with fail
 refine(Vm g s r4 aj.out Hs.out _ bj).mono ?_;rintro e ci ⟨rfl,ar,c⟩;have bc:=c.row bb (by omega);have q:=c.row a8 (by omega);have a5:=a4.trans c;have a0:=Lv (az.out.eff bj c);clear bb a8 a4 az bj c;have bi:=Lv (Vh (s:=s) (r:=r4) aj.out);have bh:=Lv (E7 s r4);obtain⟨⟨vi,r5⟩,l⟩:∃p,p=JH s r4:=⟨_,rfl⟩;rw[<-l]at ar a bi bh|-;clear l;dsimp only at ar a bi bh|-;have a9:Row ((ci).setCell ⟨D,6,none⟩ (.int .i64 vi)) D 95 #[.slice A b.length j,.int .i64 z,.int .i64 n,.int .i64 (bn:Int),.int .i64 ct,.int .i64 (kn:Int),.int .i64 vi,.string ByteArray.empty]:=q.set 6 _;have ad:=Qu (ci) D 6 (.int .i64 vi);have bd:=bc.only ad (by omega);have a6:=a5.only ad x;have bk:=Row.only ar ad (by omega);have a1:=Lv (a0.out.only q (by decide) ad);have co:=q.cellv (i:=6) (v:=.int .i64 0) rfl;have cr:=q.free 6;clear q ad bc a5 ar a0;go_wp2_with fail
 refine(Vr g s r5 32 bi.out Hs.out (by omega) _ bk).mono ?_;rintro e cj ⟨rfl,au,c⟩;have be:=c.row bd (by omega);have u:=c.row a9 (by omega);have a7:=a6.trans c;have a2:=Lv (a1.out.eff bk c);clear bd a9 a6 a1 bk c;have bg:=Lv (Lj (Aj1 s r5 32) Hs.out);obtain⟨⟨dg,r6⟩,l⟩:∃p,p=Z4 s r5 32:=⟨_,rfl⟩;rw[<-l]at au a bg|-;clear l;dsimp only at au a bg|-;have b8:Row ((cj).setCell ⟨D,7,none⟩ (.string ⟨dg.toArray⟩)) D 95 #[.slice A b.length j,.int .i64 z,.int .i64 n,.int .i64 (bn:Int),.int .i64 ct,.int .i64 (kn:Int),.int .i64 vi,.string ⟨dg.toArray⟩]:=u.set 7 _;have ae:=Qu (cj) D 7 (.string ⟨dg.toArray⟩);have bf:=be.only ae (by omega);have bw:=a7.only ae x;have ck:=Row.only au ae (by omega);have bs:=Lv (a2.out.only u (by decide) ae);have cp:=u.cellv (i:=7) (v:=.string ByteArray.empty) rfl;have cs:=u.free 7;clear u ae be a7 au a2;go_wp2_with (first| (refine wpList_load_row rfl 95 _ rfl D rfl 95 #[.slice A b.length j,.int .i64 z,.int .i64 n,.int .i64 (bn:Int),.int .i64 ct,.int .i64 (kn:Int),.int .i64 vi,.string ⟨dg.toArray⟩] (0,0) _ b8 Tryz.underlying95 rfl (by kernel_rfl) ?_)| (refine Qk 95 _ _ rfl ?_))
 refine Stop.to ?_;refine Qh rfl 95 _ _ rfl R #[.slice A b.length j,.int .i64 z,.int .i64 n,.int .i64 (bn:Int),.int .i64 ct,.int .i64 (kn:Int),.int .i64 vi,.string ⟨dg.toArray⟩] rfl rfl 95 _ bf (by kernel_rfl) rfl (by simp[Value.oneCell']) ?_;intro cy cm bm;go_wp2_with fail
 refine bodyPost_ret (results_cell_row Tryz.results183 _ _ R 95 _ (0,0) _ rfl cm Tryz.underlying95 rfl (by kernel_rfl)) rfl ?_;refine ax.out _ _ ⟨A,j,⟨⟨b,z,n⟩,(bn:Int),ct,(kn:Int),vi,dg⟩⟩ ⟨rfl,by rw[a.out],Al6 (bs.out.only bf (by decide) bm) _ _ _ _ _ bg.out,by rw[a.out];exact Row.only ck bm (by omega),bw.only bm Rh,Gn.out,bh.out⟩
end Go.Proofs.YtgnmkiafeplbpaaGreatDoor
namespace Go.Proofs.YtgnmkiafeplbpaaGreatDoor
open Go.RowKit
theorem JM{w:World}{base n size:Nat}{e:TypeId}{v:Value}{xs:List Value}(h:w.ownsRow base e size v n xs):∃A cap,v=.slice A n cap/\Rd w A xs/\n<=cap/\cap<=maxLen/\(A=none->cap=0)/\∀ad,A=some ad->base<=ad.block:=by
 have m:xs.length=n*size:=h.1;rcases h.2 with⟨rfl,c⟩|⟨g,cap,a,rfl,i,l,k,o,q,s⟩
 ·have t:xs=[]:=L3 (by rw[m,c,Nat.zero_mul]);subst t;exact⟨none,0,by rw[c],Rd.nil _ _,by omega,by unfold maxLen;omega,λ_=>rfl,λad e=>by cases e⟩
 ·refine⟨some ⟨g,0,none⟩,cap,rfl,λj u b=>⟨_,rfl,?_⟩,k,o,λe=>(by cases e),λad e=>by cases e;exact i⟩;have p:Row w g e a:=l
  exact p.from_ 0 (cs:=xs) (λj v b=>by
   rw[LS, <-N2]
   have d:(a.toList.take (n*size))[j]? =some v:=by rw[s];exact b
   rw[Nc (by have:=(Lf.1 b).1;omega)]at d;exact d) j u b
end Go.Proofs.YtgnmkiafeplbpaaGreatDoor
namespace Go.Proofs.YtgnmkiafeplbpaaGreatDoor
open Go.RowKit Go.Deep
theorem Acx{c:Rs->Bool}{one:Rs->Mt×Rs}{r:Rs}{k:Nat}(h:c (XH c one r k).2=false):∀j,XH c one r (k+j)=XH c one r k
 |0=>rfl
 |j+1=>by
  show XH c one r ((k+j)+1)=_
  rw[XH,Acx h j,if_neg (by rw[h];decide)]
theorem AgM{c:Rs->Bool}{one:Rs->Mt×Rs}{r:Rs}:∀k,(XH c one r k).1.length<=k
 |0=>Nat.le_refl _
 |k+1=>by
  rw[XH]
  have:=AgM (c:=c) (one:=one) (r:=r) k
  split
  ·simp;omega
  ·omega
theorem Alw{s:List UInt8}{r:Rs}(h:r.pl<=s.length):(UE s r).2.pl<=s.length:=by
 rw[AgK];have a:=KI (s:=s) (AeP (most:=1048576) h);split
 ·exact a
 ·exact AgX (Vh (KI (Jj a)))
theorem AgN{c:Rs->Bool}{s:List UInt8}{r:Rs}(h:r.pl<=s.length):∀k,(XH c (UE s) r k).2.pl<=s.length
 |0=>h
 |k+1=>by
  rw[XH]
  have:=AgN (c:=c) h k
  split
  ·exact Alw this
  ·exact this
structure MtsGot (s:List UInt8)(w w':World)(e:Ending)(A:Option Addr)(n cap:Nat)(l:List MtV):Prop where
 ee:e=.returned (.tuple #[.slice A n cap,.int .i64 (JP s).2])
 mm:l.map MtV.m=(JP s).1
 nn:n=l.length
 cc:n<=cap
 nil:A=none->l=[]
 rd:Rd w' A (ZH l)
 t:∀x∈l,MtT w' x
 int:∀x∈l,InI x.m.d.n/\InI x.m.value
 rb:RowB w' 95 A
 b:Below w.heap.size w w'
structure MgL (s:List UInt8)(p:List Mt×Rs)(g lim:Nat)(w W:World)(v:Value)(ms:List MtV):Prop where
 m:ms.map MtV.m=p.1
 rd:RdO W g s p.2
 own:W.ownsRow lim 95 8 v ms.length (ZH ms)
 t:∀x∈ms,MtT W x
 int:∀x∈ms,InI x.m.d.n/\InI x.m.value
 b:Below w.heap.size w W
 lim:lim<=W.heap.size
theorem MgL.go{s:List UInt8}{p:List Mt×Rs}{g lim:Nat}{w W W':World}{v:Value}{ms:List MtV}(h:MgL s p g lim w W v ms)(b:Below W.heap.size W W'):MgL s p g lim w W' v ms:=
 ⟨h.m,h.rd.go b,QU h.own b,λx hx=>(h.t x hx).go b,h.int,h.b.trans (b.mono h.b.size),Lj h.lim b.size⟩
theorem Aeg (s:List UInt8)(w:World)(hs:s.length<=1000000):
 Calls Tryz.prog 114 #[.string ⟨s.toArray⟩] w λe w'=>∃A n cap l,MtsGot s w w' e A n cap l:=by
 have Hs:=Lv hs;obtain⟨pd,a6⟩:∃p,p=JP s:=⟨_,rfl⟩;have az:=Lv a6
 have aa:Hid (∀w' e A n cap l,(e=.returned (.tuple #[.slice A n cap,.int .i64 pd.2])/\l.map MtV.m=pd.1/\n=l.length/\n<=cap/\(A=none->l=[])/\Rd w' A (ZH l)/\(∀x∈l,MtT w' x)/\(∀x∈l,InI x.m.d.n/\InI x.m.value)/\RowB w' 95 A/\Below w.heap.size w w')->∃A n cap l,MtsGot s w w' e A n cap l):=Lv (by
  rintro w' e A n cap l ⟨h1,h2,h3,h4,h5,h6,h7,h8,h9,bd⟩
  rw[a6]at h1 h2
  exact⟨A,n,cap,l,h1,h2,h3,h4,h5,h6,h7,h8,h9,bd⟩)
 clear hs a6;go_enter Tryz.func114,Tryz.ntmps114
 go_wp2_with fail
 refine(X9 s w).mono ?_;rintro e w2 ⟨g,rfl,h2,b2,hg⟩;go_wp2_with fail
 refine(Zi g s ⟨0,0⟩ 2000 (Nat.zero_le _) Hs.out (by omega) (by omega) w2 h2).mono ?_;rintro e w3 ⟨rfl,h3,e3⟩;have b3:=b2.trans (e3.below hg b2.size);have ac:=Z3 (s:=s) (r:=⟨0,0⟩) (most:=2000) (by decide);have am:=Jj (s:=s) (r:=⟨0,0⟩) (most:=2000) (Nat.zero_le _);rw[<-QV]at ac;have ab:Hid (ZA s=(XH (λr=>decide (ZB s r=5)) (UE s) (Qo s ⟨0,0⟩ 2000).2 (Qo s ⟨0,0⟩ 2000).1.toNat).1):=Lv rfl;obtain⟨⟨c,r1⟩,hc⟩:∃p,p=Qo s ⟨0,0⟩ 2000:=⟨_,rfl⟩;rw[<-hc]at h3 ac am ab|-;clear hc;dsimp only at h3 ac am ab|-;obtain⟨m,rfl⟩:=LA ac.1;rw[L0]at ab;have hm:(m:Int)<=2000:=ac.2;obtain⟨F,hF⟩:∃F,F=XH (λr=>decide (ZB s r=5)) (UE s) r1:=⟨_,rfl⟩;have HF:=Lv hF;have bc:Hid (∀k,(F k).2.pl<=s.length):=Lv (λk=>by rw[hF];exact AgN am k);have a2:Hid (∀k,(F k).1.length<=k):=Lv (λk=>by rw[hF];exact AgM k);have a8:Hid (∀k,ZB s (F k).2=5->F (k+1)=((F k).1++[(UE s (F k).2).1],(UE s (F k).2).2)):=Lv (λk h=>by rw[hF]at h|-;rw[XH,if_pos (by simpa using h)]);have bb:Hid (∀k j,¬ZB s (F k).2=5->F (k+j)=F k):=Lv (λk j h=>by rw[hF]at h|-;exact Acx (by simpa using h) j);rw[<-hF]at ab;have u:Hid (MgL s (F 0) g w3.heap.size w w3 (.slice none 0 0) []):=Lv ⟨by rw[hF];rfl,by rw[hF];exact h3,World.ownsRow_nil _ _ _ _,λx a=>(by cases a),λx a=>(by cases a),b3,Nat.le_refl _⟩;obtain⟨lim,ar⟩:∃lim,lim=w3.heap.size:=⟨_,rfl⟩;have lg:g<lim:=by rw[ar];exact Row.lt h3
 rw[<-ar]at u;clear h2 b2 h3 e3 b3 ac am ar hF HF;go_wp2_with fail
 go_loopw [5,12] (λv i wr=>∃(k:Nat) (q:List MtV),i=.int .i64 (k:Int)/\k<=m/\Hid (MgL s (F k) g lim w wr v q)) (λ_ i _=>m-(intOf i).toNat)
 case atStart=>exact⟨0,[],rfl,Nat.zero_le _,u⟩
 case round=>
  clear u;obtain⟨k,q,rfl,hk,u⟩:=hrel;by_cases bg:k<m;rotate_left
  ·obtain rfl:k=m:=by omega
   clear bg hk;obtain⟨h1,h2,h3,h4,h5,h6,h7⟩:=u.out;obtain⟨A,cap,rfl,al,ai,au,aq,a5⟩:=JM h3
   have an:q.length<=2000:=by
    have h8:=congrArg List.length h1;rw[L7]at h8;have:=a2.out k;omega
   have aj:A=none->q=[]:=λe=>L3 (by have:=aq e;omega)
   have o:q.map MtV.m=ZA s:=h1.trans ab.out.symm;have bf:(q.length:Int)<=2000:=by omega
   have HP:=Lv (YS A cap q.length q wr rfl al (λx a=>(h4 x a).1) h5 (by omega))
   have ah:AdH (ZA s)<->((ZA s).length<=2000/\(ZA s).all JY=true):=by
    rw[<-o];constructor
    ·exact λh=>⟨h.1,Nm.2 λx a=>(h.2 x a).1⟩
    ·refine λh=>⟨h.1,λx a=>⟨Nm.1 h.2 x a,?_⟩⟩
     obtain⟨y,hy,rfl⟩:=LL.1 a;exact h5 y hy
   rw[o]at HP;have ag:Hid (∀W,Below wr.heap.size wr W->Rd W A (ZH q)/\(∀x∈q,MtT W x)/\RowB W 95 A/\Below w.heap.size w W):=Lv (λW b=>⟨al.go b,λx a=>(h4 x a).go b,(K3 h3).go b,h6.trans (b.mono h6.size)⟩);have ap:Hid (q.length<=cap/\(A=none->q=[])/\∀x∈q,InI x.m.d.n/\InI x.m.value):=Lv ⟨ai,aj,h5⟩;clear h1 h2 h3 h4 h5 h6 h7 al aq a5 ai au an aj u;go_wp2_with fail
   by_cases hr:AdH (ZA s)/\ZC (ZA s)=s
   ·have z:Kc (ZA s)=(s,0):=by rw[Kc,if_pos (ah.1 hr.1),hr.2]
    rw[z]at HP;obtain rfl:pd=(ZA s,0):=az.out.trans (Jf (rd:=ZA) (λx h=>XX h) hr.1 hr.2);have ao:=Lv o;clear hr z ah o;refine HP.out.mono ?_;rintro e w8 ⟨rfl,b8⟩;have HE:=Lv (ag.out _ b8);clear HP ag b8;go_wp2_with fail
    go_ret2
    obtain⟨g1,g2,g3,g4⟩:=HE.out;obtain⟨g5,g6,g7⟩:=ap.out;exact aa.out _ _ A q.length cap q ⟨rfl,ao.out,rfl,g5,g6,g1,g2,g7,g3,g4⟩
   ·obtain rfl:pd=([],12):=az.out.trans (XT (rd:=ZA) (λx h=>XX h) hr);obtain⟨⟨t,e0⟩,z⟩:∃p,p=Kc (ZA s):=⟨_,rfl⟩;rw[<-z]at HP
    have av:¬(e0=0/\t=s):=λh=>hr (by
     unfold Kc at z
     by_cases h1:(ZA s).length<=2000/\(ZA s).all JY=true
     ·rw[if_pos h1]at z;injection z with hp1 _;exact⟨ah.2 h1,by rw[<-hp1,h.2]⟩
     ·rw[if_neg h1]at z;injection z with _ hp2;rw[h.1]at hp2;exact absurd hp2 (by decide))
    have ay:e0=0->(t==s)=false:=λh0=>by simpa using λe=>av ⟨h0,e⟩
    have ak:=Lv ay;clear hr z av ay ah o;refine HP.out.mono ?_;rintro e w8 ⟨rfl,b8⟩;have HE:=Lv (ag.out _ b8).2.2.2;clear HP ag b8;by_cases he:e0=0
    ·have bh:=ak.out he;subst he;clear ak;go_wp2_with fail
     go_ret2
     exact aa.out _ _ none 0 0 [] ⟨rfl,rfl,rfl,Nat.le_refl _,λ_=>rfl,Rd.nil _ _,λx a=>(by cases a),λx a=>(by cases a),λad h=>(by cases h),HE.out⟩
    ·clear ak;go_wp2_with fail
     go_ret2
     exact aa.out _ _ none 0 0 [] ⟨rfl,rfl,rfl,Nat.le_refl _,λ_=>rfl,Rd.nil _ _,λx a=>(by cases a),λx a=>(by cases a),λad h=>(by cases h),HE.out⟩
  have bi:(k:Int)<(m:Int):=by omega
  go_wp2_with fail
  refine(Aa8 g s (F k).2 wr u.out.rd).mono ?_;rintro e w5 ⟨rfl,b5,_⟩;replace u:=Lv (u.out.go b5);clear b5;by_cases h5:ZB s (F k).2=5;rotate_left
  ·have be:(ZB s (F k).2 != 5)=true:=by simpa using h5
   have hF:F m=F k:=by
    have:=bb.out k (m-k) h5;rwa[show k+(m-k)=m by omega]at this
   rw[<-hF]at u;clear hF h5;obtain⟨h1,h2,h3,h4,h5,h6,h7⟩:=u.out;obtain⟨A,cap,rfl,al,ai,au,aq,a5⟩:=JM h3
   have an:q.length<=2000:=by
    have h8:=congrArg List.length h1;rw[L7]at h8;have:=a2.out m;omega
   have aj:A=none->q=[]:=λe=>L3 (by have:=aq e;omega)
   have o:q.map MtV.m=ZA s:=h1.trans ab.out.symm;have bf:(q.length:Int)<=2000:=by omega
   have HP:=Lv (YS A cap q.length q w5 rfl al (λx a=>(h4 x a).1) h5 (by omega))
   have ah:AdH (ZA s)<->((ZA s).length<=2000/\(ZA s).all JY=true):=by
    rw[<-o];constructor
    ·exact λh=>⟨h.1,Nm.2 λx a=>(h.2 x a).1⟩
    ·refine λh=>⟨h.1,λx a=>⟨Nm.1 h.2 x a,?_⟩⟩
     obtain⟨y,hy,rfl⟩:=LL.1 a;exact h5 y hy
   rw[o]at HP;have ag:Hid (∀W,Below w5.heap.size w5 W->Rd W A (ZH q)/\(∀x∈q,MtT W x)/\RowB W 95 A/\Below w.heap.size w W):=Lv (λW b=>⟨al.go b,λx a=>(h4 x a).go b,(K3 h3).go b,h6.trans (b.mono h6.size)⟩);have ap:Hid (q.length<=cap/\(A=none->q=[])/\∀x∈q,InI x.m.d.n/\InI x.m.value):=Lv ⟨ai,aj,h5⟩;clear h1 h2 h3 h4 h5 h6 h7 al aq a5 ai au an aj u;go_wp2_with fail
   by_cases hr:AdH (ZA s)/\ZC (ZA s)=s
   ·have z:Kc (ZA s)=(s,0):=by rw[Kc,if_pos (ah.1 hr.1),hr.2]
    rw[z]at HP;obtain rfl:pd=(ZA s,0):=az.out.trans (Jf (rd:=ZA) (λx h=>XX h) hr.1 hr.2);have ao:=Lv o;clear hr z ah o;refine HP.out.mono ?_;rintro e w8 ⟨rfl,b8⟩;have HE:=Lv (ag.out _ b8);clear HP ag b8;go_wp2_with fail
    go_ret2
    obtain⟨g1,g2,g3,g4⟩:=HE.out;obtain⟨g5,g6,g7⟩:=ap.out;exact aa.out _ _ A q.length cap q ⟨rfl,ao.out,rfl,g5,g6,g1,g2,g7,g3,g4⟩
   ·obtain rfl:pd=([],12):=az.out.trans (XT (rd:=ZA) (λx h=>XX h) hr);obtain⟨⟨t,e0⟩,z⟩:∃p,p=Kc (ZA s):=⟨_,rfl⟩;rw[<-z]at HP
    have av:¬(e0=0/\t=s):=λh=>hr (by
     unfold Kc at z
     by_cases h1:(ZA s).length<=2000/\(ZA s).all JY=true
     ·rw[if_pos h1]at z;injection z with hp1 _;exact⟨ah.2 h1,by rw[<-hp1,h.2]⟩
     ·rw[if_neg h1]at z;injection z with _ hp2;rw[h.1]at hp2;exact absurd hp2 (by decide))
    have ay:e0=0->(t==s)=false:=λh0=>by simpa using λe=>av ⟨h0,e⟩
    have ak:=Lv ay;clear hr z av ay ah o;refine HP.out.mono ?_;rintro e w8 ⟨rfl,b8⟩;have HE:=Lv (ag.out _ b8).2.2.2;clear HP ag b8;by_cases he:e0=0
    ·have bh:=ak.out he;subst he;clear ak;go_wp2_with fail
     go_ret2
     exact aa.out _ _ none 0 0 [] ⟨rfl,rfl,rfl,Nat.le_refl _,λ_=>rfl,Rd.nil _ _,λx a=>(by cases a),λx a=>(by cases a),λad h=>(by cases h),HE.out⟩
    ·clear ak;go_wp2_with fail
     go_ret2
     exact aa.out _ _ none 0 0 [] ⟨rfl,rfl,rfl,Nat.le_refl _,λ_=>rfl,Rd.nil _ _,λx a=>(by cases a),λx a=>(by cases a),λad h=>(by cases h),HE.out⟩
  have be:(ZB s (F k).2 != 5)=false:=by simp[h5]
  have a7:=Lv (a8.out k h5);clear h5;go_wp2_with fail
  refine(AhY g s (F k).2 w5 (bc.out k) Hs.out u.out.rd).mono ?_;rintro e w6 ⟨y,rfl,gm,gt,gr,ge,gn,gv⟩
  have an:q.length<=k:=by
   have h8:=congrArg List.length u.out.m;rw[L7]at h8;have:=a2.out k;omega
  have a1:=Yi u.out.own ge lg;have t6:∀x∈q,MtT w6 x:=λx a=>(u.out.t x a).eff u.out.rd ge
  have b6:=u.out.b.trans (ge.below hg u.out.b.size);have l6:lim<=w6.heap.size:=Lj u.out.lim ge.size;have Hm:=Lv u.out.m;have a0:=Lv u.out.int;clear u ge;go_wp2_with (refine QY _ _ _ rfl ?_)
  refine Stop.to ?_;refine Qw rfl 27 1 _ rfl 95 y.cells.toArray (λW=>by kernel_rfl) ?_;intro M Mw Mh Mr Mb;have bM:=Mb.mono Mh;have af:=QU a1 bM;have t7:∀x∈q,MtT Mw x:=λx a=>(t6 x a).go bM
  have a9:=gt.go bM;have a4:=gr.go bM;have b7:=b6.trans (bM.mono b6.size);have l7:=Lj l6 bM.size;obtain⟨v8,w8,ax,aw,ae, -⟩:=Ahm (m:=1) (cap:=1) af l7 [y] (Z6 (cs:=ZH [y]) (by simpa[ZH]using Mr)) rfl (by simp) (by omega);have a3:=Lv ax;have ba:=QK af a4 (by decide)
  have HN:Hid (MgL s (F (k+1)) g lim w w8 v8 (q++[y])):=Lv ⟨by rw[a7.out,LW,Hm.out];simp[gm],by rw[a7.out];exact Row.grown a4 ae ba,by rw[Aez,La];exact aw,
   λx a=>by
    rcases LG.1 a with h|h
    ·exact(t7 x h).own af ae
    ·rw[L8.1 h];exact a9.own af ae,
   λx a=>by
    rcases LG.1 a with h|h
    ·exact a0.out x h
    ·rw[L8.1 h];exact⟨gn,gv⟩,
   QJ b7 af ae b7.size (by omega),Lj l7 ae.size⟩
  clear a1 t6 b6 l6 Hm a0 Mh Mr Mb bM af t7 a9 a4 b7 l7 ax aw ae ba gm gt gr gn gv;refine Zc rfl _ (QF rfl a3.out) ?_;go_wp2_with fail
  go_roundw
  case rel=>exact⟨k+1,q++[y],by go_num,by omega,HN⟩
  case measure=>simp[intOf];omega
instance St.mtst{l:List MtV}:St (λW=>∀x∈l,MtT W x):=⟨λh b x hx=>(h x hx).go b⟩
instance St.rowB{t:TypeId}{A:Option Addr}:St (λW=>RowB W t A):=⟨λh b=>h.go b⟩
theorem AkW:QQ cp0=23:=by
 unfold QQ;rw[Afn];rfl
end Go.Proofs.YtgnmkiafeplbpaaGreatDoor
namespace Go.Proofs.YtgnmkiafeplbpaaGreatDoor
open Go.RowKit
def Zu{α:Type}(c:Rs->Bool)(one:Rs->α×Rs)(r:Rs):Nat->List α×Rs
 |0=>([],r)
 |k+1=>if c (Zu c one r k).2=true then((Zu c one r k).1++[(one (Zu c one r k).2).1],(one (Zu c one r k).2).2)else Zu c one r k
theorem AeT{α:Type}{c:Rs->Bool}{one:Rs->α×Rs}{enc:α->List UInt8}{s t:List UInt8}{pl:Nat}{l:List α}(h:s.drop pl=l.flatMap enc++t)
 (h1:∀a∈l,∀(t:List UInt8) (pl:Nat),s.drop pl=enc a++t->c ⟨pl,0⟩=true/\one ⟨pl,0⟩=(a,⟨pl+(enc a).length,0⟩)):∀k,k<=l.length->Zu c one ⟨pl,0⟩ k=(l.take k,⟨pl+((l.take k).flatMap enc).length,0⟩)
 |0,_=>by simp[Zu]
 |k+1,hk=>by
  obtain⟨x,hx⟩:∃x,l[k]? =some x:=⟨_,Ld hk⟩
  have e:l=l.take k++(x::l.drop (k+1)):=by
   have g:l.drop k=x::l.drop (k+1):=by rw[<-Ns hk,(Lf.1 hx).2]
   rw[<-g,LC]
  have i:s.drop (pl+((l.take k).flatMap enc).length)=enc x++((l.drop (k+1)).flatMap enc++t):=by
   refine Q0 (a:=(l.take k).flatMap enc) ?_;rw[h]
   conv=>lhs;rw[e]
   simp
  obtain⟨b,d⟩:=h1 x (Li hx) _ _ i
  rw[Zu,AeT h h1 k (by omega)]
  dsimp only
  rw[if_pos b,d,ZE hx]
  dsimp only
  rw[LM,La]
  simp[Nn]
theorem Vu{α:Type}{c:Rs->Bool}{one:Rs->α×Rs}{enc:α->List UInt8}{s t:List UInt8}{pl:Nat}{l:List α}(h:s.drop pl=l.flatMap enc++t)
 (h1:∀a∈l,∀(t:List UInt8) (pl:Nat),s.drop pl=enc a++t->c ⟨pl,0⟩=true/\one ⟨pl,0⟩=(a,⟨pl+(enc a).length,0⟩)):Zu c one ⟨pl,0⟩ l.length=(l,⟨pl+(l.flatMap enc).length,0⟩):=by
 rw[AeT h h1 _ (Nat.le_refl _),LO]
abbrev Su:=List (List Int)×Int
def ZV (x:Su):Nat:=(x.1.headD []).length
def JO (l:List Int):List UInt8:=l.flatMap zz
def Jt (x:Su):List UInt8:=QC x.2.toNat++(QC x.1.length++(QC (ZV x)++x.1.flatMap JO))
def XB (x:Su):List UInt8×Int:=if x.1.length=0\/12<ZV x then([],18)else if Zk (ZV x) x.1 x.2≠0 then([],Zk (ZV x) x.1 x.2)else(Jt x,0)
def AkL (x:Su):Prop:=ZV x<=12/\Zk (ZV x) x.1 x.2=0/\∀l∈x.1,∀n∈l,InI n
theorem X6{params fuel:Int}{ts:List (List Int)}(h:Zk params ts fuel=0):(1<=ts.length/\ts.length<=20)/\(∀l∈ts,(l.length:Int)=params)/\1<=fuel/\fuel<=10000:=by
 unfold Zk at h;by_cases b:ts.length<1\/20<ts.length
 ·rw[if_pos b]at h;cases h
 ·rw[if_neg b]at h;by_cases a:∀l∈ts,(l.length:Int)=params
  ·rw[if_pos a]at h;by_cases c:fuel<1\/10000<fuel
   ·rw[if_pos c]at h;cases h
   ·exact⟨by omega,a,by omega⟩
  ·rw[if_neg a]at h;cases h
theorem Vg{x:Su}(h:ZV x<=12/\Zk (ZV x) x.1 x.2=0):XB x=(Jt x,0):=by
 have:=X6 h.2;unfold XB;rw[if_neg (by omega),if_neg (λk=>k h.2)]
theorem AjZ{x:Su}(h:¬(ZV x<=12/\Zk (ZV x) x.1 x.2=0)):(XB x).2≠0/\(XB x).1=[]:=by
 unfold XB;by_cases a:x.1.length=0\/12<ZV x
 ·rw[if_pos a];exact⟨by decide,rfl⟩
 ·rw[if_neg a];have b:Zk (ZV x) x.1 x.2≠0:=λe=>h ⟨by omega,e⟩;rw[if_pos b];exact⟨b,rfl⟩
def Y0 (s:List UInt8):Su:=
 let f:=Qo s ⟨0,0⟩ 10000
 let n:=Qo s f.2 20
 let w:=Qo s n.2 12
 ((Zu (λ_=>true) (λr=>Zu (λ_=>true) (JH s) r w.1.toNat) w.2 n.1.toNat).1,f.1)
theorem AlL{z:Int}{s t:List UInt8}{pl k:Nat}{l:List Int}(hl:l.length=k)(hi:∀n∈l,InI n)(h:s.drop pl=JO l++t):Zu (λ_=>true) (Aj0 z s) ⟨pl,0⟩ k=(l,⟨pl+(JO l).length,0⟩):=by
 subst hl;exact Vu h λn b t pl a=>⟨rfl,Uj a (hi n b)⟩
theorem Abs{x:Su}(h:AkL x):Y0 (Jt x)=x:=by
 obtain⟨y,u,d⟩:=h;obtain⟨⟨o,p⟩,c,q,s⟩:=X6 u;obtain⟨a,b⟩:=x;dsimp only at o p c q s d;obtain⟨f,rfl⟩:=LA (show 0<=b by omega);have e:(Jt (a,(f:Int))).drop 0=QC f++(QC a.length++(QC (ZV (a,(f:Int)))++(a.flatMap JO++[]))):=by simp[Jt]
 have k:Qo (Jt (a,(f:Int))) ⟨0,0⟩ 10000=_:=(QV _ _ _).trans (Ze (z:=0) (most:=10000) e (by omega) (by omega));have g:=Q0 e;have m:Qo (Jt (a,(f:Int))) ⟨0+(QC f).length,0⟩ 20=_:=(QV _ _ _).trans (Ze (z:=0) (most:=20) g (by omega) (by omega));have i:=Q0 g;have n:Qo (Jt (a,(f:Int))) ⟨0+(QC f).length+(QC a.length).length,0⟩ 12=_:=(QV _ _ _).trans (Ze (z:=0) (most:=12) i (by omega) (by omega));have v:=Q0 i;unfold Y0;dsimp only;rw[k];dsimp only;rw[m];dsimp only;rw[n];dsimp only;rw[L0,L0];rw[Vu (enc:=JO) v λl j t pl w=>⟨rfl,AlL (z:=0) (by have:=c l j;omega) (d l j) w⟩]
noncomputable def Yq (s:List UInt8):Su×Int:=XS Jt AkL ([],0) s
end Go.Proofs.YtgnmkiafeplbpaaGreatDoor
