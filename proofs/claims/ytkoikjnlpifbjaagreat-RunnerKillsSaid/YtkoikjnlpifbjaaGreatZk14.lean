/- Lemmas for RunnerKillsP. -/
import Derived.Test.YtkoikjnlpifbjaaGreatZk1
import Derived.Test.YtkoikjnlpifbjaaGreatZk13
import Derived.Test.YtkoikjnlpifbjaaGreatZk11
import Derived.Test.YtkoikjnlpifbjaaGreatZk12
set_option linter.unusedVariables false
set_option linter.unusedSimpArgs false
set_option maxRecDepth 100000
set_option maxHeartbeats 16000000
namespace Go.Proofs.YtkoikjnlpifbjaaGreat
open Go.RowKit Go.Deep
def IntB (W:World)(A:Option Addr):Prop:=∀a,A=some a->∃cs:Array Value,Row W a.block 3 cs
theorem IntB.go{W W':World}{A:Option Addr}(h:IntB W A)(b:Below W.heap.size W W'):IntB W' A:=λa e=>by
 obtain⟨d,c⟩:=h a e;exact⟨d,c.below b c.lt⟩
theorem E5{w:World}{base n:Nat}{v:Value}{xs:List Value}{A:Option Addr}{m c:Nat}(h:w.ownsRow base 3 1 v n xs)(e:v=.slice A m c):IntB w A:=λa ha=>by
 rcases h.2 with⟨d,_⟩|⟨g,c,i,d,k,j,_⟩
 ·rw[e]at d;injection d with e3;rw[ha]at e3;cases e3
 ·rw[e]at d;injection d with e3;rw[ha]at e3;injection e3 with e3;rw[e3];exact⟨i,j⟩
structure IntsN (xs:List Int)(w w':World)(e:Ending):Prop where
 ex:∃A cap,e=.returned (.slice A xs.length cap)/\Rd w' A (Qi xs)/\(A=none->xs=[])/\Below w.heap.size w w'/\IntB w' A
def Kf (but:Int)(l:List Int):List Int:=(Xq l).filter (· != but)
theorem AdT (g cap B:Nat)(but:Int)(l:List Int)(w:World)(hr:Row w g 3 (Qi l).toArray)(hl:l.length<=1000)(hc:l.length<=cap)(hcm:cap<=maxLen)(hB:B<=g):
 Calls Tryz.prog 213 #[.int .i64 but,.slice (some ⟨g,0,none⟩) l.length cap] w λe w'=>∃A c,e=.returned (.slice A (Kf but l).length c)/\Rd w' A (Qi (Kf but l))/\(A=none->Kf but l=[])/\Below B w w'/\IntB w' A:=by
 have ac:=hr.lt;have Hr:=Lh hr;have Hl:=Lh hl;have Hc:=Lh hc;have aa:=Lh hcm;clear hr hl hc hcm;go_enter Tryz.func213,Tryz.ntmps213
 go_wp2_with (refine Qq _ _ rfl ?_)
 refine Stop.to ?_;refine Qe rfl 3 _ rfl #[.int .i64 but] rfl ?_;intro P Pw Ph Pr Pb;have h:P≠g:=by omega
 have rg:=Hr.out.below Pb (by omega);have n:OnRow g w Pw:=OnRow.of_below (Pb.mono Ph);have rP:=Pr;have Hs:=Lh (Ahj g cap l Pw rg Hl.out);clear Pb Pr Ph;go_wp2_with fail
 refine Hs.out.mono ?_;clear Hs rg;rintro e w1 ⟨rfl,r1,i⟩;have t:=i.row rP h;have o:=n.trans i;have d:(l.mergeSort λx y=>decide (x<=y)).length=l.length:=List.length_mergeSort l;have Hk:=Lh (AbV g cap (l.mergeSort λx y=>decide (x<=y)) w1 r1 (by rw[d];exact Hl.out) (by rw[d];exact Hc.out));rw[d,Ahk]at Hk;clear rP n i d r1;go_wp2_with fail
 refine Hk.out.mono ?_;clear Hk;rintro e w2 ⟨rfl,r2,k⟩;have v:=k.row t h;have p:=o.trans k;have ab:(Xq l).length<=l.length:=Aau l;have Hd:=Lh (Ah0 g cap P but (Xq l) (List.replicate (l.length-(Xq l).length) 0) w2 r2 v h (by have:=Hl.out;omega) (by have:=Hc.out;omega) aa.out);clear t o k r2 v ab;go_wp2_with fail
 refine Hd.out.mono ?_;clear Hd;rintro e w3 ⟨rfl,q,cs,r3,m⟩;have s:=p.trans q
 have z:Hid (Below B w w3/\IntB w3 (some ⟨g,0,none⟩)/\Rd w3 (some ⟨g,0,none⟩) (Qi (Kf but l))):=⟨s.below hB (by omega),λa e=>by injection e with e;subst e;exact⟨_,r3⟩,λj u hj=>⟨_,rfl,by
  have:=r3.cellv (m j u hj)
  unfold Addr.add
  by_cases h0:j=0
  ·subst h0;exact this
  ·rw[if_neg h0];simpa using this⟩⟩
 clear p q s r3 m;go_wp2_with fail
 go_ret
 exact⟨_,_,rfl,z.out.2.2,by simp,z.out.1,z.out.2.1⟩
theorem Ab3:(Tryz.prog.info? 3).map (λi=>(i.zero,i.size))=some (some (.int .i64 0),1):=by kernel_rfl
def ZI (x:Nd):List Int:=if x.tag=1 then Kf x.n [0,1]else [0,1]
theorem AcJ (x:Nd)(w:World):
 Calls Tryz.prog 214 #[.agg x.cells.toArray] w λe w'=>IntsN (ZI x) w w' e:=by
 rw[show x.cells.toArray=#[.int .i64 x.tag,.int .i64 x.n]from rfl];go_enter Tryz.func214,Tryz.ntmps214
 go_wp2_with (refine Qq _ _ rfl ?_)
 refine Stop.to ?_;refine Qe rfl 65 _ rfl #[.int .i64 x.tag,.int .i64 x.n] rfl ?_;intro G Gw u p t;have c0:=p.cellv (i:=0) (v:=.int .i64 x.tag) rfl;have c1:=p.cellv (i:=1) (v:=.int .i64 x.n) rfl;have d:=(Below.refl w.heap.size w).trans (t.mono u);clear t u p;by_cases h:x.tag=1
 ·have q:(x.tag==1)=true:=by simpa using h
  have j:Hid (ZI x=Kf x.n [0,1]):=by show _=_;unfold ZI;rw[if_pos h]
  clear h;go_wp2_with (refine ZJ _ _ _ rfl ?_)
  refine Stop.to ?_;refine QA rfl 22 2 _ rfl 3 (Qi [0,1]).toArray (Z8 Tryz.underlying22 Ab3 (by decide) (by decide) (by kernel_rfl)) ?_;intro M m l g k;have z:=d.trans ((k.mono l).mono d.size);have y:=Lh (AdT M 2 w.heap.size x.n [0,1] m g (by simp) (by simp) (by unfold maxLen;omega) (by have:=d.size;omega));clear g k l c0 c1 d;go_wp2_with fail
  refine y.out.mono ?_;clear y;rintro e s ⟨A,c,rfl,h1,h2,h3,h4⟩;have o:Hid (Rd s A (Qi (Kf x.n [0,1]))/\(A=none->Kf x.n [0,1]=[])/\Below w.heap.size w s/\IntB s A):=⟨h1,h2,z.trans h3,h4⟩;clear h1 h2 h3 h4 z;go_wp2_with fail
  go_ret
  exact⟨A,c,by rw[j.out];rfl,by rw[j.out];exact o.out⟩
 ·have q:(x.tag==1)=false:=by simpa using h
  have j:Hid (ZI x=[0,1]):=by show _=_;unfold ZI;rw[if_neg h]
  clear h;go_wp2_with (refine ZJ _ _ _ rfl ?_)
  refine Stop.to ?_;refine QA rfl 22 2 _ rfl 3 (Qi [0,1]).toArray (Z8 Tryz.underlying22 Ab3 (by decide) (by decide) (by kernel_rfl)) ?_;intro M m l g k;have o:Hid (Rd m (some ⟨M,0,none⟩) (Qi [0,1])/\Below w.heap.size w m/\IntB m (some ⟨M,0,none⟩)):=⟨Jz g,d.trans ((k.mono l).mono d.size),λa e=>by injection e with e;subst e;exact⟨_,g⟩⟩;clear g k l c0 c1 d;go_wp2_with fail
  go_ret
  exact⟨_,_,by rw[j.out];rfl,by rw[j.out];exact o.out.1,by simp,o.out.2⟩
def UR (lo but:Int)(k:Nat):List Int:=((List.range k).map λi:Nat=>lo+(i:Int)).filter (· != but)
def JE (lo hi but:Int):List Int:=UR lo but (hi+1-lo).toNat
theorem Ahe (lo but:Int)(k:Nat):UR lo but (k+1)=UR lo but k++if lo+(k:Int)=but then []else [lo+(k:Int)]:=by
 unfold UR;rw[List.range_succ,LN,N4];by_cases h:lo+(k:Int)=but<;>simp[h]
theorem Agi (lo but:Int)(k:Nat):(UR lo but k).length<=k:=by
 unfold UR;have:=Ns (· != but) ((List.range k).map λi:Nat=>lo+(i:Int));simpa using this
theorem Ef (lo hi but:Int)(w:World)(h0:0<=lo)(h1:lo<=hi)(h2:hi<=100):
 Calls Tryz.prog 212 #[.int .i64 lo,.int .i64 hi,.int .i64 but] w λe w'=>IntsN (JE lo hi but) w w' e:=by
 obtain⟨n,hn⟩:∃n,n=(hi+1-lo).toNat:=⟨_,rfl⟩;have ai:lo+(n:Int)=hi+1:=by omega
 have Hn:=Lh hn;clear hn;go_enter Tryz.func212,Tryz.ntmps212
 go_wp2
 go_loopw [7,8] (λv i wr=>∃k:Nat,i=.int .i64 (lo+(k:Int))/\k<=n/\wr.ownsRow w.heap.size 3 1 v (UR lo but k).length (Qi (UR lo but k))/\Below w.heap.size w wr) (λ_ i _=>(hi+1-intOf i).toNat)
 case atStart=>exact⟨0,by simp,Nat.zero_le _,World.ownsRow_nil _ _ _ _,Below.refl _ _⟩
 case round=>
  rename_i v;obtain⟨k,rfl,hk,d,hb⟩:=hrel;obtain⟨A,c,rfl,p,ab,l,s⟩:=Y0 d;have o:=E5 d rfl;by_cases ah:k<n
  ·have ag:lo+(k:Int)<=hi:=by omega
   have u:=Ahe lo but k;have ad:=Agi lo but k;by_cases g:lo+(k:Int)=but
   ·have ae:((lo+(k:Int)) != but)=false:=by simp[g]
    rw[if_pos g,LR]at u;have Hs:=Lh u;have y:=Lh d;clear u g d p ab l s o;go_wp2_with fail
    go_roundw
    case rel=>exact⟨k+1,by go_num,by omega,by rw[Hs.out];exact y.out,hb⟩
    case measure=>simp[intOf];omega
   ·have ae:((lo+(k:Int)) != but)=true:=by simp[g]
    rw[if_neg g]at u;have Hs:=Lh u;have x:=Lh ad;clear u g p ab l s ad o;go_wp2_with (refine ZJ _ _ _ rfl ?_)
    refine Stop.to ?_;refine QA rfl 22 1 _ rfl 3 #[.int .i64 (lo+(k:Int))] (Z8 Tryz.underlying22 Ab3 (by decide) (by decide) (by kernel_rfl)) ?_;intro M Mw Mh Mr Mb;have j:=hb.trans ((Mb.mono Mh).mono hb.size);obtain⟨v',w',q,h,ac,_⟩:=ZA (P:=Tryz.prog) 22 3 (.int .i64 0) 1 8 Tryz.underlying22 Jc rfl (by decide) (by decide) (QB d (Mb.mono Mh)) j.size (Jz (cs:=[.int .i64 (lo+(k:Int))]) Mr) (m:=1) (cap:=1) rfl (Jn [lo+(k:Int)]) (by simp) (by have:=x.out;omega);have aa:=QL j (QB d (Mb.mono Mh)) ac j.size (Nat.le_refl _);have t:Hid (w'.ownsRow w.heap.size 3 1 v' (UR lo but (k+1)).length (Qi (UR lo but (k+1)))/\Below w.heap.size w w'):=⟨by rw[Hs.out,Le,JY];exact h,aa⟩;have z:=Lh q;clear q h ac aa j hb Mr Mb Mh d Hs x;go_wp2_with (refine Zm rfl _ (QE rfl z.out) ?_)
    go_roundw
    case rel=>exact⟨k+1,by go_num,by omega,t.out⟩
    case measure=>simp[intOf];omega
  ·obtain rfl:k=n:=by omega
   have af:hi<lo+(k:Int):=by omega
   have t:Hid (Rd wr A (Qi (JE lo hi but))/\(A=none->JE lo hi but=[])/\UR lo but k=JE lo hi but/\IntB wr A):=by
    have e:UR lo but k=JE lo hi but:=by unfold JE;rw[Hn.out]
    rw[<-e]
    exact⟨p,λe=>by
     have:=l e;have:(UR lo but k).length=0:=by omega
     exact Lt this,rfl,o⟩
   clear p l d s o;go_wp2_with fail
   go_ret
   exact⟨A,c,by rw[<-t.out.2.2.1];rfl,t.out.1,t.out.2.1,hb,t.out.2.2.2⟩
attribute [local go_sem] Oper.semAt_some
structure KpG (Z:Nat->Obj->Prop)(A B:World):Prop where
 block:∀k o,¬Z k o->A.heap[k]? =some o->B.heap[k]? =some o
 size:A.heap.size<=B.heap.size
theorem KpG.trans{Z:Nat->Obj->Prop}{A B C:World}(h:KpG Z A B)(k:KpG Z B C):KpG Z A C:=⟨λi o hx ho=>k.block i o hx (h.block i o hx ho),Ld h.size k.size⟩
theorem KpG.refl (Z:Nat->Obj->Prop)(A:World):KpG Z A A:=⟨λ_ _ _ h=>h,Nat.le_refl _⟩
theorem KpG.of_below{Z:Nat->Obj->Prop}{A B:World}(h:Below A.heap.size A B):KpG Z A B:=⟨λk o _ ho=>by rw[h.block k (Lr.1 ho).1];exact ho,h.size⟩
theorem KpG.row{Z:Nat->Obj->Prop}{A B:World}(h:KpG Z A B){g:Nat}{t:TypeId}{cs:Array Value}(hr:Row A g t cs)(hx:¬Z g (.cells cs t (0,0))):Row B g t cs:=h.block g _ hx hr
theorem KpG.rd{Z:Nat->Obj->Prop}{A B:World}(h:KpG Z A B){ad:Option Addr}{xs:List Value}(hr:Rd A ad xs)(hx:xs≠[]->∀a,ad=some a->∀o,¬Z a.block o):Rd B ad xs:=λj u hj=>by
 obtain⟨a,e,k⟩:=hr j u hj;have g:xs≠[]:=λe=>by rw[e]at hj;simp at hj
 have d:=World.block_lt_of_cell? _ _ k;have c:(a.add j).block=a.block:=JG a j;rw[c]at d;have i:A.heap[a.block]? =some A.heap[a.block]:=NE d;have l:=h.block _ _ (hx g a e _) i;exact⟨a,e,(World.cell?_of_block (by rw[c];exact l.trans i.symm)).trans k⟩
theorem Aco{W:World}{g:Nat}{t:TypeId}{v:Value}(h:Row W g t #[v]):W.setCell ⟨g,0,none⟩ v=W:=by
 have c:=h.set 0 v;have j:=Zl W g 0 v;rw[show(#[v]:Array Value).setIfInBounds 0 v=#[v] by simp]at c
 have i:(W.setCell ⟨g,0,none⟩ v).heap=W.heap:=by
  apply Array.ext_getElem?;intro k;by_cases d:k=g
  ·subst d;rw[show(W.setCell ⟨k,0,none⟩ v).heap[k]? =_ from c,show W.heap[k]? =_ from h]
  ·exact j.block k d
 have e:W.setCell ⟨g,0,none⟩ v={ W with heap:=(W.setCell ⟨g,0,none⟩ v).heap }:=rfl;rw[e,i]
structure LsX where
 op:Int
 A:Option Addr
 cap:Nat
 l:List Int
def LsX.f (x:LsX):Int×List Int:=(x.op,x.l)
def LsX.enc (x:LsX):Array Value:=#[.int .i64 x.op,.slice x.A x.l.length x.cap]
structure LsX.ok (x:LsX)(W:World):Prop where
 rd:Rd W x.A (Qi x.l)
 nil:x.A=none->x.l=[]
 ty:IntB W x.A
def LsP (full:List (Int×List Int))(pre:List LsX)(x:LsX)(W:World):Prop:=x.ok W/\∃rest,pre.map LsX.f++x.f::rest=full
def Ku (x y:Nd):List (Int×List Int):=
 (if 7<=x.tag/\x.tag<=11 then [(1,JE 7 11 x.tag)]else if 12<=x.tag/\x.tag<=17 then [(2,JE 12 17 x.tag)]else if x.tag=18\/x.tag=19 then [(3,JE 18 19 x.tag)]
  else if x.tag=1 then [(4,Kf x.n [0,1, -1,wrap64 (x.n+1),wrap64 (x.n-1)])]else if x.tag=2 then [(4,[wrap64 (1-x.n)])]else [])
 ++(if x.tag=21\/x.tag=22\/x.tag=23\/x.tag=24\/x.tag=25 then [(5,[0])]else [])
 ++(if x.tag=23\/x.tag=24 then [(6,[0])]else if x.tag=25 then [(7,ZI y)]else [])
structure TellC (lb mo yb:Nat)(Z:Nat->Obj->Prop)(W:World):Prop where
 rm:Row W mo 4 #[.bool true]
 ry:Row W yb 295 #[.func (.yield lb) #[] #[]]
 zm:∀cs fr,¬Z mo (.cells cs 4 fr)
 zy:∀cs fr,¬Z yb (.cells cs 295 fr)
theorem TellC.kg{lb mo yb:Nat}{Z:Nat->Obj->Prop}{W W':World}(h:TellC lb mo yb Z W)(k:KpG Z W W'):TellC lb mo yb Z W':=⟨k.row h.rm (h.zm _ _),k.row h.ry (h.zy _ _),h.zm,h.zy⟩
theorem JA (lb mo yb:Nat)(Z:Nat->Obj->Prop)(W:World)(x:LsX)(R:World->Prop)(hC:TellC lb mo yb Z W)
 (hY:YieldAt Fence.wide 0 Tryz.prog lb x.enc W λe W'=>e=.returned (.bool true)/\R W'/\KpG Z W W'):
 CallsIn Fence.wide 0 Tryz.prog 211 #[.int .i64 x.op,.slice x.A x.l.length x.cap,.pointer (some ⟨mo,0,none⟩),.pointer (some ⟨yb,0,none⟩)] W λe W'=>(∃v,e=.returned v)/\R W'/\KpG Z W W':=by
 have j:=Lh hC;obtain⟨fn,h,c,g,s,p⟩:=hY;have m:(Instr.yield lb #[.int .i64 x.op,.slice x.A x.l.length x.cap]).run Tryz.prog W=.ok (.round lb fn h c g) W:=s;have n:=Lh p;clear s p hC;have w:=j.out.rm.cellv (i:=0) (v:=.bool true) rfl;have z:=j.out.ry.cellv (i:=0) (v:=.func (.yield lb) #[] #[]) rfl;refine callsIn_of_wp Tryz.func211 rfl trivial ?_ rfl;simp only[Tryz.ntmps211,Lk,Lc,Lo,Nat.reduceAdd,Nat.reduceSub,Li,Lj,Lp,L5,Lm,Ll];gi_wp2_with fail
 refine⟨rfl,n.out.mono ?_⟩;clear m n w z;rintro e o ⟨rfl,q,k⟩;have d:=j.out.kg k;have y:=d.rm.cellv (i:=0) (v:=.bool true) rfl;have aa:=d.rm.free 0;have u:=Lh (Aco d.rm);have t:Hid (R o/\KpG Z W o):=⟨q,k⟩;clear q k d;gi_wp2_with fail
 rw[u.out];go_end0
 exact⟨⟨_,rfl⟩,t.out⟩
structure ListsC (A:Option Addr)(cap n bl Rb:Nat)(x:Nd)(ys:List Nd)(Z:Nat->Obj->Prop)(w:World):Prop where
 rl:Row w bl 23 #[.slice A n cap]
 hr:Rd w A ((x::ys).flatMap Nd.cells)
 hn:n=(x::ys).length
 z1:∀k o,k<w.heap.size->k≠Rb->¬Z k o
 bn:bl≠Rb
 an:∀ad,A=some ad->ad.block≠Rb
 z2:∀k cs t fr,w.heap.size<=k->(t=295\/t=65\/t=4\/t=3)->¬Z k (.cells cs t fr)
 h25:x.tag=25->ys≠[]
end Go.Proofs.YtkoikjnlpifbjaaGreat
