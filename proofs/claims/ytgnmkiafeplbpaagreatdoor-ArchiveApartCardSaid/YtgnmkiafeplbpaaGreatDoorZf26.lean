/- Lemmas for ArAll. -/
import Derived.Test.YtgnmkiafeplbpaaGreatDoorZf1
import Derived.Test.YtgnmkiafeplbpaaGreatDoorZf24
import Derived.Test.YtgnmkiafeplbpaaGreatDoorZf25
import Derived.Test.YtgnmkiafeplbpaaGreatDoorZf12
import Derived.Test.YtgnmkiafeplbpaaGreatDoorZf13
import Derived.Test.YtgnmkiafeplbpaaGreatDoorZf11
import Derived.Test.YtgnmkiafeplbpaaGreatDoorZf22
set_option linter.unusedVariables false
set_option linter.unusedSimpArgs false
set_option maxRecDepth 100000
set_option maxHeartbeats 16000000
namespace Go.Proofs.YtgnmkiafeplbpaaGreatDoor
open Go.RowKit Go.Deep
instance St.wreff{B g:Nat}{w:World}:St (λW=>WrEff B g w W):=⟨λh b=>h.trans (WrEff.of_below b)⟩
theorem AhZ (B g:Nat)(l:List UInt8)(hl:l.length<=800000)(x:MtV)(w:World)(hx:MtOk w x)(hn:InI x.m.d.n)(hv:InI x.m.value)(h:Wr w B g l):
 Calls Tryz.prog 90 #[.agg x.cells.toArray,.pointer (some ⟨g,0,none⟩)] w λe w'=>e=.returned (.bool (JY x.m))/\Wr w' B g (l++(if JY x.m=true then Zd x.m else []))/\WrEff B g w w':=by
 have Hx:=Lv hx;have Hl:=Lv hl;have Hv:=Lv hv;have Hg:Hid (g<w.heap.size):=h.lt;obtain⟨pd,ae⟩:∃p,p=Us x.m.d:=⟨_,rfl⟩
 have HP:Hid (∀W,DlOk W x.dl->Calls Tryz.prog 165 #[.agg x.dl.cells] W λe w'=>e=.returned (.tuple #[.string ⟨pd.1.toArray⟩,.int .i64 pd.2])/\Below W.heap.size W w'):=Lv (λW c=>by
  have:=Ab8 x.dl W c hn
  rw[show x.dl.d=x.m.d from rfl, <-ae]at this
  exact this)
 have HR:=Lv (λW c=>AcK x W c);obtain⟨fb,am⟩:∃b,b=JY x.m:=⟨_,rfl⟩;rw[<-am];obtain⟨el,al⟩:∃el,el=if fb=true then Zd x.m else []:=⟨_,rfl⟩;rw[<-al];have aj:=Lv al;have ak:=Lv am;clear al am;clear hx hl hn hv;go_enter Tryz.func90,Tryz.ntmps90
 go_wp2_with (refine Qx _ _ rfl ?_)
 refine Stop.to ?_;refine Qf rfl 130 _ rfl x.cells.toArray rfl ?_;intro G Gw Gh Gr Gb;have b1:=(Below.refl w.heap.size w).trans (Gb.mono Gh);have av:=h.go b1;have a0:g<G:=Lg Hg.out Gh;clear h Gb Gh;go_wp2_with (refine Qn rfl 91 _ rfl ⟨G,0,none⟩ rfl x.dl.cells.toList _ (Acw Gr) Tryz.underlying91 rfl (by kernel_rfl) ?_)
 refine(HP.out Gw (Hx.out.go b1).dl).mono ?_;rintro e w2 ⟨rfl,b2⟩;have r2:=Gr.below b2 Gr.lt;have an:=av.go b2;have bb:=b1.trans (b2.mono b1.size);clear HP Gr b1 b2 av;by_cases hr:Zg x.m.d=true;rotate_left
 ·obtain rfl:pd=([],17):=ae.trans (if_neg hr);obtain rfl:fb=false:=ak.out.trans (by simp[JY,hr]);obtain rfl:el=[]:=aj.out;clear hr ae;go_wp2_with fail
  go_ret
  exact⟨rfl,by simpa using an,WrEff.of_below bb⟩
 obtain rfl:pd=(Q9 x.m.d,0):=ae.trans (if_pos hr);clear ae;go_wp2_with (refine Zl rfl 130 _ rfl G rfl 130 x.cells.toArray (0,0) _ r2 Tryz.underlying130 rfl (by kernel_rfl) ?_)
 refine(HR.out w2 (Hx.out.go bb)).mono ?_;rintro e w3 ⟨rfl,b3⟩;have r3:=r2.below b3 r2.lt;have ao:=an.go b3;replace bb:=bb.trans (b3.mono bb.size);clear HR r2 b3 an;by_cases hz:Kd x.m=true;rotate_left
 ·obtain rfl:fb=false:=ak.out.trans (by simp[JY,hz]);obtain rfl:el=[]:=aj.out;rw[Bool.not_eq_true]at hz;rw[hz];clear hr;go_wp2_with fail
  go_ret
  exact⟨rfl,by simpa using ao,WrEff.of_below bb⟩
 obtain rfl:fb=true:=ak.out.trans (by simp[JY,hr,hz]);obtain rfl:el=Zd x.m:=aj.out;rw[hz];have ay:=VU hr;have ac:=Lv (λhv=>UM hz hv);clear hr;go_wp2_with fail
 obtain⟨S,ad⟩:∃S,S=(λW=>Row W G 130 x.cells.toArray/\WrEff B g w W):=⟨_,rfl⟩;have a4:St S:=by rw[ad];infer_instance
 have T0:Hid (∀W,S W->Row W G 130 x.cells.toArray):=by show ∀W,_;rw[ad];exact λW h=>h.1
 have T4:Hid (∀W,S W->WrEff B g w W):=by show ∀W,_;rw[ad];exact λW h=>h.2
 have q:Hid (∀W,Row W G 130 x.cells.toArray->WrEff B g w W->S W):=by show ∀W,_;rw[ad];exact λW h b=>⟨h,b⟩
 have ar:=q.out _ r3 (WrEff.of_below bb);clear ad r3 bb
 have ai:0<=x.m.verdict/\x.m.verdict<=2:=by
  by_cases h0:x.m.verdict=0
  ·omega
  ·have:=(ac.out h0).1;omega
 have aw:IntKind.u8.wrap x.m.verdict=((UInt8.ofNat x.m.verdict.toNat).toNat:Int):=by rw[IntKind.wrap_u8,VC ai.1 (by omega)];omega
 have aq:=Lv (show(QC (Q9 x.m.d).length).length<=10 from Qz _);refine wp_region_held (S:=S) (by kernel_rfl) ?_;simp only[Ly,Le,Ll,Nat.reduceAdd,Ln,Lp,Lz,Lu,Lk];show wpAnyH _ _ _ _ _ _ _ _ w3.drew;have s:=St.drew ar;have h4:Wr w3.drew B g l:=St.drew (S:=λW=>Wr W B g l) ao;clear ar ao;generalize w3.drew=w4 at s h4|-;(refine tkH 0 (.pointer (some ⟨g,0,none⟩)) rfl (Qd rfl (λW c=>by(rfl))) ?_;simp only[Act.put,Qa,Qb,Qc]);(refine tkH 1 (.string ⟨(Q9 x.m.d).toArray⟩) rfl (Qd rfl (λW c=>by(rfl))) ?_;simp only[Act.put,Qa,Qb,Qc]);(refine tkH 3 (.pointer (some ⟨G,3,none⟩)) rfl (Qd rfl (λW c=>by(go_simp))) ?_;simp only[Act.put,Qa,Qb,Qc]);(refine tkH 4 (.int .i64 x.m.verdict) rfl (Qd rfl (λW c=>by((have h:=(T0.out W c).cellv (i:=3) (v:=.int .i64 x.m.verdict) rfl;go_simp)))) ?_;simp only[Act.put,Qa,Qb,Qc]);(refine tkH 5 (.int .u8 ((UInt8.ofNat x.m.verdict.toNat).toNat:Int)) rfl (Qd rfl (λW c=>by(go_simp))) ?_;simp only[Act.put,Qa,Qb,Qc]);(refine wpAnyH_all (rs:=[2]) (by kernel_rfl) (by simp) (λi hi=>?_);obtain rfl:i=2:=by simpa using hi);refine Qg rfl rfl (λK2 a=>?_);refine Qm 166 #[.pointer (some ⟨g,0,none⟩),.string ⟨(Q9 x.m.d).toArray⟩] (w1:=w4) (by go_simp) ((Ago B g l (Q9 x.m.d) (by have:=Hl.out;omega) (by omega) w4 h4).mono ?_);rintro e w5 ⟨rfl,h5,j⟩;refine⟨_,rfl,?_⟩;refine a _ _ ?_;clear a K2;simp only[Act.put,Qa,Qb,Qc];have t:S w5:=q.out _ (j.row (T0.out _ s) (by omega) (by decide)) ((T4.out _ s).trans j);clear s h4 j;refine⟨t,?_⟩;(refine wpAnyH_all (rs:=[6]) (by kernel_rfl) (by simp) (λi hi=>?_);obtain rfl:i=6:=by simpa using hi);refine Qg rfl rfl (λK2 a=>?_);refine Qm 85 #[.pointer (some ⟨g,0,none⟩),.int .u8 ((UInt8.ofNat x.m.verdict.toNat).toNat:Int)] (w1:=w5) (by go_simp) ((JT B g _ (UInt8.ofNat x.m.verdict.toNat) (by have:=Hl.out;have:=aq.out;simp only[La];omega) w5 h5).mono ?_);rintro e w6 ⟨rfl,h6,j⟩;refine⟨_,rfl,?_⟩;refine a _ _ ?_;clear a K2;simp only[Act.put,Qa,Qb,Qc];have o:S w6:=q.out _ (j.row (T0.out _ t) (by omega) (by decide)) ((T4.out _ t).trans j);clear t h5 j;refine⟨o,?_⟩;refine wpAnyH_done (by kernel_rfl) ?_ _;have c3:=(T0.out _ o).cellv (i:=3) (v:=.int .i64 x.m.verdict) rfl;obtain⟨l6,ag⟩:∃l6,l6=l++QC (Q9 x.m.d).length++Q9 x.m.d++[UInt8.ofNat x.m.verdict.toNat]:=⟨_,rfl⟩;rw[<-ag]at h6;have ap:=Lv ag;have k:Hid (l6.length<=801000):=Lv (by have:=Hl.out;have:=aq.out;rw[ag];simp only[La,Le,Ll];omega);clear ag;by_cases h0:x.m.verdict=0
 ·have af:YW x.m=[]:=if_pos h0;have ab:Hid (l++Zd x.m=l6):=Lv (by rw[ap.out,Zd,af];simp);rw[h0]at c3;clear aw af;go_wp2_with fail
  go_ret
  exact⟨rfl,by rw[ab.out];exact h6,T4.out _ o⟩
 obtain⟨g1,g2,g3,g4,g5,g6⟩:=ac.out h0;have af:YW x.m=VB x.m:=if_neg h0;obtain⟨tn,au⟩:=LA g2;have ab:Hid (l++Zd x.m=l6++QC tn++[UInt8.ofNat x.m.kind.toNat]++zz x.m.value++x.m.digest):=Lv (by rw[ap.out,Zd,af,VB,au];simp);have a2:IntKind.u8.wrap x.m.kind=((UInt8.ofNat x.m.kind.toNat).toNat:Int):=by rw[IntKind.wrap_u8,VC g5 (by omega)];omega
 have a3:IntKind.u64.wrap (tn:Int)=(tn:Int):=by rw[IntKind.wrap_u64];omega
 have a1:tn<=19:=by omega
 have ax:(x.m.verdict != 0)=true:=by simpa using h0
 clear aw af h0 g1 g2 g3 g5 g6 ai;go_wp2_with fail
 refine wp_region_held (S:=S) (by kernel_rfl) ?_;simp only[Ly,Le,Ll,Nat.reduceAdd,Ln,Lp,Lz,Lu,Lk];show wpAnyH _ _ _ _ _ _ _ _ w6.drew;have u:=St.drew o;have h7:Wr w6.drew B g l6:=St.drew (S:=λW=>Wr W B g l6) h6;clear o h6 c3;generalize w6.drew=w7 at u h7|-;have az:(⟨x.m.digest.toArray⟩:ByteArray).size=x.m.digest.length:=by simp[ByteArray.size]
 (refine tkH 0 (.pointer (some ⟨g,0,none⟩)) rfl (Qd rfl (λW c=>by(rfl))) ?_;simp only[Act.put,Qa,Qb,Qc]);(refine tkH 1 (.pointer (some ⟨G,4,none⟩)) rfl (Qd rfl (λW c=>by(go_simp))) ?_;simp only[Act.put,Qa,Qb,Qc]);(refine tkH 2 (.int .i64 (tn:Int)) rfl (Qd rfl (λW c=>by((have h:=(T0.out W c).cellv (i:=4) (v:=.int .i64 x.m.test) rfl;rw[au]at h;go_simp)))) ?_;simp only[Act.put,Qa,Qb,Qc]);(refine tkH 3 (.int .u64 (tn:Int)) rfl (Qd rfl (λW c=>by(go_simp))) ?_;simp only[Act.put,Qa,Qb,Qc]);(refine tkH 5 (.pointer (some ⟨G,5,none⟩)) rfl (Qd rfl (λW c=>by(go_simp))) ?_;simp only[Act.put,Qa,Qb,Qc]);(refine tkH 6 (.pointer (some ⟨G,5,none⟩)) rfl (Qd rfl (λW c=>by(go_simp))) ?_;simp only[Act.put,Qa,Qb,Qc]);(refine tkH 7 (.int .i64 x.m.kind) rfl (Qd rfl (λW c=>by((have h:=(T0.out W c).cellv (i:=5) (v:=.int .i64 x.m.kind) rfl;go_simp)))) ?_;simp only[Act.put,Qa,Qb,Qc]);(refine tkH 8 (.int .u8 ((UInt8.ofNat x.m.kind.toNat).toNat:Int)) rfl (Qd rfl (λW c=>by(go_simp))) ?_;simp only[Act.put,Qa,Qb,Qc]);(refine tkH 10 (.pointer (some ⟨G,5,none⟩)) rfl (Qd rfl (λW c=>by(go_simp))) ?_;simp only[Act.put,Qa,Qb,Qc]);(refine tkH 11 (.pointer (some ⟨G,6,none⟩)) rfl (Qd rfl (λW c=>by(go_simp))) ?_;simp only[Act.put,Qa,Qb,Qc]);(refine tkH 12 (.int .i64 x.m.value) rfl (Qd rfl (λW c=>by((have h:=(T0.out W c).cellv (i:=6) (v:=.int .i64 x.m.value) rfl;go_simp)))) ?_;simp only[Act.put,Qa,Qb,Qc]);(refine tkH 14 (.pointer (some ⟨G,7,none⟩)) rfl (Qd rfl (λW c=>by(go_simp))) ?_;simp only[Act.put,Qa,Qb,Qc]);(refine tkH 15 (.string ⟨x.m.digest.toArray⟩) rfl (Qd rfl (λW c=>by((have h:=(T0.out W c).cellv (i:=7) (v:=.string ⟨x.m.digest.toArray⟩) rfl;go_simp)))) ?_;simp only[Act.put,Qa,Qb,Qc]);(refine wpAnyH_all (rs:=[4]) (by kernel_rfl) (by simp) (λi hi=>?_);obtain rfl:i=4:=by simpa using hi);refine Qg rfl rfl (λK2 a=>?_);refine Qm 88 #[.pointer (some ⟨g,0,none⟩),.int .u64 (tn:Int)] (w1:=w7) (by go_simp) ((Z2 B g l6 tn (by have:=k.out;omega) (by omega) w7 h7).mono ?_);rintro e w8 ⟨rfl,h8,j⟩;refine⟨_,rfl,?_⟩;refine a _ _ ?_;clear a K2;simp only[Act.put,Qa,Qb,Qc];have y:S w8:=q.out _ (j.row (T0.out _ u) (by omega) (by decide)) ((T4.out _ u).trans j);clear u h7 j;refine⟨y,?_⟩;(refine wpAnyH_all (rs:=[9]) (by kernel_rfl) (by simp) (λi hi=>?_);obtain rfl:i=9:=by simpa using hi);refine Qg rfl rfl (λK2 a=>?_);refine Qm 85 #[.pointer (some ⟨g,0,none⟩),.int .u8 ((UInt8.ofNat x.m.kind.toNat).toNat:Int)] (w1:=w8) (by go_simp) ((JT B g _ (UInt8.ofNat x.m.kind.toNat) (by have:=k.out;have:=Qz tn;simp only[La];omega) w8 h8).mono ?_);rintro e w9 ⟨rfl,h9,j⟩;refine⟨_,rfl,?_⟩;refine a _ _ ?_;clear a K2;simp only[Act.put,Qa,Qb,Qc];have z:S w9:=q.out _ (j.row (T0.out _ y) (by omega) (by decide)) ((T4.out _ y).trans j);clear y h8 j;refine⟨z,?_⟩;(refine wpAnyH_all (rs:=[13]) (by kernel_rfl) (by simp) (λi hi=>?_);obtain rfl:i=13:=by simpa using hi);refine Qg rfl rfl (λK2 a=>?_);refine Qm 89 #[.pointer (some ⟨g,0,none⟩),.int .i64 x.m.value] (w1:=w9) (by go_simp) ((E4 B g _ x.m.value (by have:=k.out;have:=Qz tn;simp only[La,Le,Ll];omega) Hv.out w9 h9).mono ?_);rintro e wa ⟨rfl,ha,j⟩;refine⟨_,rfl,?_⟩;refine a _ _ ?_;clear a K2;simp only[Act.put,Qa,Qb,Qc];have aa:S wa:=q.out _ (j.row (T0.out _ z) (by omega) (by decide)) ((T4.out _ z).trans j);clear z h9 j;refine⟨aa,?_⟩;(refine wpAnyH_all (rs:=[16]) (by kernel_rfl) (by simp) (λi hi=>?_);obtain rfl:i=16:=by simpa using hi);refine Qg rfl rfl (λK2 a=>?_);refine Qm 155 #[.pointer (some ⟨g,0,none⟩),.string ⟨x.m.digest.toArray⟩] (w1:=wa) (by go_simp) ((Yk B g _ ⟨x.m.digest.toArray⟩ (by have:=k.out;have:=Qz tn;have:=Et x.m.value;simp only[La,Le,Ll];omega) (by omega) wa ha).mono ?_);rintro e wb ⟨rfl,hb,j⟩;refine⟨_,rfl,?_⟩;refine a _ _ ?_;clear a K2;simp only[Act.put,Qa,Qb,Qc];have ah:S wb:=q.out _ (j.row (T0.out _ aa) (by omega) (by decide)) ((T4.out _ aa).trans j);clear aa ha j;refine⟨ah,?_⟩;refine wpAnyH_done (by kernel_rfl) ?_ _;go_wp2_with fail
 go_ret
 exact⟨rfl,by rw[ab.out];exact hb,T4.out _ ah⟩
theorem JS (w:World):
 Calls Tryz.prog 84 #[] w λe w'=>∃g,e=.returned (.pointer (some ⟨g,0,none⟩))/\Wr w' g g []/\Below w.heap.size w w'/\w.heap.size<=g:=
 (EN w).mono λ_ _ h=>⟨_,h.1,h.2.1,h.2.2,Nat.le_refl _⟩
theorem AhH{l:List Mt}{k:Nat}{x:Mt}(hx:l[k]? =some x):(l.take (k+1)).flatMap Zd=(l.take k).flatMap Zd++Zd x:=by rw[ZE hx];simp
theorem AbJ{l:List Mt}{k:Nat}(h:(l.take k).all JY=true)(hk:k<=2000):((l.take k).flatMap Zd).length<=770000:=by
 have a:=Ajm h;have b:=NB k l;omega
theorem YS (A:Option Addr)(cap n:Nat)(l:List MtV)(w:World)(hn:n=l.length)(hr:Rd w A (ZH l))(hok:∀x∈l,MtOk w x)(hin:∀x∈l,InI x.m.d.n/\InI x.m.value)(hl:n<=1000000):
 Calls Tryz.prog 29 #[.slice A n cap] w λe w'=>e=.returned (.tuple #[.string ⟨(Kc (l.map MtV.m)).1.toArray⟩,.int .i64 (Kc (l.map MtV.m)).2])/\Below w.heap.size w w':=by
 have Hn:=Lv hn;have Hr:=Lv hr;have ai:=Lv hok;have aa:=Lv hin;obtain⟨b,o⟩:∃b,b=l.map MtV.m:=⟨_,rfl⟩;have ag:=Lv o;rw[<-o];obtain⟨pd,y⟩:∃p,p=Kc b:=⟨_,rfl⟩;have q:=Lv y;rw[<-y];have a:Hid (b.length=n):=Lv (by rw[o,hn];simp);have ar:(n:Int)<=1000000:=by omega
 clear hn hr hok hin o y hl;by_cases h2:n<=2000;rotate_left
 ·obtain rfl:pd=([],24):=q.out.trans (if_neg (λh=>h2 (by have:=a.out;omega)));have aj:¬(n:Int)<=2000:=by omega
  have ak:(2000:Int)<(n:Int):=by omega
  clear h2;go_enter Tryz.func29,Tryz.ntmps29
  go_wp2_with fail
  go_ret2
  exact⟨rfl,Below.refl _ _⟩
 have aj:(n:Int)<=2000:=by omega
 have ak:¬(2000:Int)<(n:Int):=by omega
 have ao:IntKind.u64.wrap (n:Int)=(n:Int):=by rw[IntKind.wrap_u64];omega
 go_enter Tryz.func29,Tryz.ntmps29
 go_wp2_with fail
 refine(JS w).mono ?_;rintro e w3 ⟨g,rfl,h3,b3,ac⟩;go_wp2_with fail
 refine(Z2 g g [] n (by simp) (by omega) w3 h3).mono ?_;rintro e w4 ⟨rfl,h4,e4⟩;have b4:=b3.trans ((e4.below (Nat.le_refl _) (by have:=h3.lt;omega)).mono ac);rw[Lu]at h4;clear h3 e4 b3 ao;go_wp2_with fail
 go_loopw [18] (λi wr=>∃k:Nat,i=.int .i64 (k:Int)/\k<=n/\Hid ((b.take k).all JY=true)/\Wr wr g g (QC n++(b.take k).flatMap Zd)/\Below w.heap.size w wr) (λi _=>n-(intOf i).toNat)
 case atStart=>exact⟨0,rfl,Nat.zero_le _,Lv (by simp),by simpa using h4,b4⟩
 case round=>
  clear h4 b4;obtain⟨k,rfl,hk,c,hw,u⟩:=hrel
  have af:Hid ((QC n++(b.take k).flatMap Zd).length<=780000):=Lv (by
   have h1:=AbJ c.out (by omega)
   have h2:=Qz n
   rw[La];omega)
  by_cases ab:k<n
  ·obtain⟨x,hx⟩:∃x,l[k]? =some x:=⟨_,Ld (by have:=Hn.out;omega)⟩;have ae:b[k]? =some x.m:=by rw[ag.out,LR,hx];rfl
   obtain⟨ad,al,hc⟩:=KM (Hr.out.go u) hx;have Hx:=Lv (Li hx);have s:=Lv ae;have ap:(k:Int)<(n:Int):=by omega
   clear hx ae ab;rw[al];have Hc:=Lv hc;clear hc;go_wp2_with (first| (refine Qn rfl 95 _ rfl (ad.add (k*8)) rfl x.cells _ Hc.out Tryz.underlying95 rfl (by kernel_rfl) ?_)| (refine Qs _ rfl ?_))
   refine Stop.to ?_;refine Qi rfl 95 rfl _ _ (VL _) rfl ?_;intro D Dw Dh Dr Db;have an:=hw.go (Db.mono Dh);have am:=u.trans (Db.mono (by have:=u.size;omega));go_wp2_with (refine Qk _ _ _ rfl ?_)
   refine Stop.to ?_;refine Qh rfl 95 _ _ rfl D x.cells.toArray rfl rfl 95 _ Dr (by kernel_rfl) rfl (by simp[MtV.cells,Value.oneCell']) ?_;intro w5 r5 o5;have aq:g<D:=Lg hw.lt Dh;have t:Below wr.heap.size wr w5:=(Db.mono Dh).trans (o5.below Dh);have z:=hw.go t;have v:=u.trans (t.mono u.size);clear Dr Db o5 an am t hw u;go_wp2_with (refine wpList_load_row rfl 95 _ rfl D rfl 95 x.cells.toArray (0,0) _ r5 Tryz.underlying95 rfl (by kernel_rfl) ?_)
   refine(AhZ g g _ (by have:=af.out;omega) x w5 ((ai.out x Hx.out).go v) (aa.out x Hx.out).1 (aa.out x Hx.out).2 z).mono ?_;rintro e w6 ⟨rfl,h6,e6⟩;have b6:=v.trans ((e6.below (Nat.le_refl _) (by have:=z.lt;omega)).mono ac);clear r5 z v e6;cases hf:JY x.m
   ·obtain rfl:pd=([],24):=q.out.trans (if_neg (λh=>by
      have:=Nm.1 h.2 x.m (Li s.out)
      rw[hf]at this;cases this))
    clear h6;go_wp2_with fail
    go_ret2
    exact⟨rfl,b6⟩
   ·rw[hf,if_pos rfl,L4]at h6;have ah:Hid ((b.take (k+1)).all JY=true):=Lv (by rw[ZE s.out,List.all_append,c.out];simp[hf]);clear hf;go_wp2_with fail
    go_roundw
    case rel=>exact⟨k+1,by go_num,by omega,ah,by rw[AhH s.out];exact h6,b6⟩
    case measure=>simp[intOf];omega
  ·obtain rfl:k=n:=by omega
   have j:=c.out;have ht:b.take k=b:=Lm (by have:=a.out;omega);rw[ht]at j hw;have he:ZC b=QC k++b.flatMap Zd:=by rw[ZC,a.out]
   obtain rfl:pd=(QC k++b.flatMap Zd,0):=(q.out.trans (if_pos ⟨by have:=a.out;omega,j⟩)).trans (by rw[he]);clear ab hk ht j he;go_wp2_with fail
   refine(ZZ g g _ wr hw).mono ?_;rintro e w5 ⟨rfl,rfl⟩;go_wp2_with fail
   go_ret2
   exact⟨rfl,u⟩
def Sc.ns (x:Sc):List Int:=[x.alive,x.killed,x.timeout]
def okN (n:Int):Bool:=decide (0<=n) && decide (n<=2000)
theorem okSc_iff{x:Sc}:Ea x<->x.ns.all okN=true:=by
 simp[Ea,Sc.ns,okN]
def nsB (l:List Int):List UInt8:=l.flatMap λn=>QC n.toNat
theorem AlA (l:List Int):(nsB l).length<=10*l.length:=UJ l
theorem Aje (x:Sc):Kj x=nsB x.ns:=by simp[Kj,nsB,Sc.ns]
theorem Vf (x:Sc)(w:World):
 Calls Tryz.prog 31 #[.agg x.cells] w λe w'=>e=.returned (.tuple #[.string ⟨(EI x).1.toArray⟩,.int .i64 (EI x).2])/\Below w.heap.size w w':=by
 obtain⟨pd,d⟩:∃p,p=EI x:=⟨_,rfl⟩;have b:=Lv d;rw[<-d];clear d;go_enter Tryz.func31,Tryz.ntmps31
 go_wp2_with (refine Qx _ _ rfl ?_)
 refine Stop.to ?_;refine Qf rfl 29 _ rfl x.cells rfl ?_;intro G Gw Gh Gr Gb;have y:=(Below.refl w.heap.size w).trans (Gb.mono Gh);clear Gb;go_wp2_with fail
 refine(JS Gw).mono ?_;rintro e w3 ⟨g,rfl,h3,b3,s⟩;have r3:=Gr.below b3 Gr.lt;have bb:=y.trans (b3.mono y.size);have t:w.heap.size<=g:=Lj y.size s;have c0:=r3.cellv (i:=0) (v:=.int .i64 x.alive) rfl;have c1:=r3.cellv (i:=1) (v:=.int .i64 x.killed) rfl;have c2:=r3.cellv (i:=2) (v:=.int .i64 x.timeout) rfl;clear Gr y b3 s;go_wp2_with (refine QY _ _ _ rfl ?_)
 refine Stop.to ?_;refine Qw rfl 22 3 _ rfl 3 #[.int .i64 x.alive,.int .i64 x.killed,.int .i64 x.timeout] (λW=>by kernel_rfl) ?_;intro L Lw Lh Lr Lb;have ad:g<L:=Lg h3.lt Lh;have h4:=h3.go (Lb.mono Lh);have b4:=bb.trans (Lb.mono (Lj bb.size Lh));have rL:Row Lw L 3 (Qj x.ns).toArray:=Lr;clear h3 bb Lb Lr r3 c0 c1 c2;go_wp2_with fail
 go_loopw [16] (λi wr=>∃k:Nat,i=.int .i64 (k:Int)/\k<=3/\Hid ((x.ns.take k).all okN=true)/\Wr wr g g (nsB (x.ns.take k))/\Row wr L 3 (Qj x.ns).toArray/\Below w.heap.size w wr) (λi _=>3-(intOf i).toNat)
 case atStart=>exact⟨0,rfl,Nat.zero_le _,Lv (by simp),by simpa[nsB]using h4,rL,b4⟩
 case round=>
  clear h4 b4 rL;obtain⟨k,rfl,hk,a,j,z,o⟩:=hrel;by_cases c:k<3
  ·obtain⟨n,hx⟩:∃n,x.ns[k]? =some n:=⟨_,Ld (by simpa[Sc.ns]using c)⟩;have hc:wr.cell? ⟨L,k,none⟩=some (.int .i64 n):=z.cellv (by simp[Qj,hx]);have u:=Lv hx;have ac:(k:Int)<3:=by omega
   have aa:Hid ((nsB (x.ns.take k)).length<=100):=Lv (by
    have h1:=AlA (x.ns.take k)
    have h2:=NB k x.ns
    omega)
   clear hx c;by_cases h0:n<0
   ·obtain rfl:pd=([],22):=b.out.trans (if_neg (λh=>by
      have:=Nm.1 (okSc_iff.1 h) n (Li u.out)
      simp[okN]at this;omega))
    clear j;go_wp2_with fail
    go_ret2
    exact⟨rfl,o⟩
   by_cases h2:2000<n
   ·obtain rfl:pd=([],22):=b.out.trans (if_neg (λh=>by
      have:=Nm.1 (okSc_iff.1 h) n (Li u.out)
      simp[okN]at this;omega))
    clear j;go_wp2_with fail
    go_ret2
    exact⟨rfl,o⟩
   have q:okN n=true:=by simp[okN];omega
   have ab:Hid ((x.ns.take (k+1)).all okN=true):=Lv (by rw[ZE u.out,List.all_append,a.out];simp[q]);have l:Hid (nsB (x.ns.take (k+1))=nsB (x.ns.take k)++QC n.toNat):=Lv (by rw[ZE u.out];simp[nsB]);clear q;obtain⟨m,rfl⟩:=LA (Int.not_lt.1 h0);have ae:IntKind.u64.wrap (m:Int)=(m:Int):=by rw[IntKind.wrap_u64];omega
   rw[L0]at l;go_wp2_with fail
   refine(Z2 g g _ m (by have:=aa.out;omega) (by omega) wr j).mono ?_;rintro e w5 ⟨rfl,h5,e5⟩;have r5:=e5.row z (by omega) (by decide);have b5:=o.trans ((e5.below (Nat.le_refl _) (by have:=j.lt;omega)).mono t);clear j z o e5 hc;go_wp2_with fail
   go_roundw
   case rel=>exact⟨k+1,by go_num,by omega,ab,by rw[l.out];exact h5,r5,b5⟩
   case measure=>simp[intOf];omega
  ·obtain rfl:k=3:=by omega
   have ht:x.ns.take 3=x.ns:=rfl;rw[ht]at a j;obtain rfl:pd=(nsB x.ns,0):=(b.out.trans (if_pos (okSc_iff.2 a.out))).trans (by rw[Aje]);clear c hk ht a z;go_wp2_with fail
   refine(ZZ g g _ wr j).mono ?_;rintro e w5 ⟨rfl,rfl⟩;go_wp2_with fail
   go_ret2
   exact⟨rfl,o⟩
attribute [local go_sem] Oper.semAt_some
theorem Aha{P:Program}{c:Code}{a:Act}{w:World}{Q:Exit->Act->World->Prop}(h:c.wp P (Ends Q) a w):c.wp P Q a w:=Code.wp_mono Ends.imp h
def RowB (W:World)(t:TypeId)(A:Option Addr):Prop:=∀ad,A=some ad->∃cs:Array Value,Row W ad.block t cs
theorem RowB.go{W W':World}{t:TypeId}{A:Option Addr}(h:RowB W t A)(b:Below W.heap.size W W'):RowB W' t A:=λad e=>by
 obtain⟨c,a⟩:=h ad e;exact⟨c,a.below b a.lt⟩
theorem RowB.only{W W':World}{t t':TypeId}{A:Option Addr}{g:Nat}{cs':Array Value}(h:RowB W t A)(o:Only g W W')(hg:Row W g t' cs')(ne:t≠t'):RowB W' t A:=λad e=>by
 obtain⟨b,c⟩:=h ad e;refine⟨b,c.only o λd=>ne ?_⟩;have a:W.heap[g]? =some (.cells b t (0,0)):=by rw[<-d];exact c
 rw[show W.heap[g]? =some (.cells cs' t' (0,0))from hg]at a;injection a with a;injection a with _ a;exact a.symm
theorem RowB.kp{W W':World}{t:TypeId}{A:Option Addr}{X:Nat->Prop}(h:RowB W t A)(k:KpX X W W')(hx:∀i cs,Row W i t cs->¬X i):RowB W' t A:=λad e=>by
 obtain⟨cs,a⟩:=h ad e;exact⟨cs,k.row a (hx _ _ a)⟩
theorem K3{w:World}{base size n m c:Nat}{e:TypeId}{A:Option Addr}{xs:List Value}(h:w.ownsRow base e size (.slice A m c) n xs):RowB w e A:=λad ha=>by
 rcases h.2 with⟨b,_⟩|⟨g,c,a,b,i,d,_⟩
 ·injection b with e3;rw[ha]at e3;cases e3
 ·injection b with e3;rw[ha]at e3;injection e3 with e3;rw[e3];exact⟨a,d⟩
structure CpT (W:World)(c:CpV):Prop where
 va:RowB W 3 c.p.va
 ba:RowB W 52 c.p.ba
 tA:RowB W 22 c.tA
 ts:∀x∈c.tests,RowB W 3 x.addr
 mA:RowB W 95 c.mA
 ms:∀x∈c.mts,RowB W 3 x.A
theorem CpT.zero (W:World):CpT W cp0:=⟨λad e=>(by cases e),λad e=>(by cases e),λad e=>(by cases e),λx hx=>(by simp[cp0]at hx),λad e=>(by cases e),λx hx=>(by simp[cp0]at hx)⟩
theorem PgV.ok.only{p:PgV}{W W':World}{g:Nat}(h:p.ok W)(o:Only g W W')(h1:∀a,p.va=some a->a.block≠g)(h2:∀a,p.ba=some a->a.block≠g):p.ok W':=
 ⟨h.par,h.vlen,h.vmax,h.vnil,h.vrd.only o (λ_ a e=>h1 a e),h.vin,h.blen,h.bmax,h.bnil,h.brd.only o (λ_ a e=>h2 a e),h.bin⟩
theorem RowB.ne{W:World}{t:TypeId}{A:Option Addr}{g:Nat}{cs':Array Value}(h:RowB W t A)(hg:Row W g 31 cs')(ne:t≠31):∀ad,A=some ad->ad.block≠g:=λad e e2=>by
 obtain⟨b,c⟩:=h ad e;have a:W.heap[g]? =some (.cells b t (0,0)):=by rw[<-e2];exact c
 rw[show W.heap[g]? =some (.cells cs' 31 (0,0))from hg]at a;injection a with a;injection a with _ a;exact ne a.symm
theorem Ajy:(Tryz.prog.info? 22).map (λi=>(i.zero,i.size,i.bytes))=some (some (.slice none 0 0),1,24):=by kernel_rfl
def IntT (W:World)(x:IntsV):Prop:=x.ok W/\IntB W x.addr
theorem IntT.same{A B:World}{x:IntsV}(h:IntT A x)(hb:∀(a:Addr) (cs:Array Value),x.addr=some a->Row A a.block 3 cs->Row B a.block 3 cs):IntT B x:=
 ⟨⟨h.1.len,h.1.cap,h.1.nil,λj u hj=>by
  obtain⟨a,e,hc⟩:=h.1.reads j u hj
  obtain⟨cs,hr⟩:=h.2 a e
  exact⟨a,e,(World.cell?_of_block (by rw[JU];exact(hb a cs e hr).trans (Eq.symm hr))).trans hc⟩,h.1.all⟩,λa e=>by
  obtain⟨cs,hr⟩:=h.2 a e
  exact⟨cs,hb a cs e hr⟩⟩
theorem PgV.ok.kp{p:PgV}{W W':World}{X:Nat->Prop}(h:p.ok W)(k:KpX X W W')(h1:Qj p.V≠[]->∀a,p.va=some a->¬X a.block)(h2:p.body.flatMap Nd.cells≠[]->∀a,p.ba=some a->¬X a.block):p.ok W':=
 ⟨h.par,h.vlen,h.vmax,h.vnil,k.rd h.vrd h1,h.vin,h.blen,h.bmax,h.bnil,k.rd h.brd h2,h.bin⟩
end Go.Proofs.YtgnmkiafeplbpaaGreatDoor
