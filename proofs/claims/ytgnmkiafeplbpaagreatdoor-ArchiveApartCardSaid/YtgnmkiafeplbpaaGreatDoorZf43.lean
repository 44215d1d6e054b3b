/- Lemmas for ArAll. -/
import Derived.Test.YtgnmkiafeplbpaaGreatDoorZf1
import Derived.Test.YtgnmkiafeplbpaaGreatDoorZf42
import Derived.Test.YtgnmkiafeplbpaaGreatDoorZf35
import Derived.Test.YtgnmkiafeplbpaaGreatDoorZf30
import Derived.Test.YtgnmkiafeplbpaaGreatDoorZf14
import Derived.Test.YtgnmkiafeplbpaaGreatDoorZf22
set_option linter.unusedVariables false
set_option linter.unusedSimpArgs false
set_option maxRecDepth 100000
set_option maxHeartbeats 16000000
namespace Go.Proofs.YtgnmkiafeplbpaaGreatDoor
open Go.RowKit Go.Deep
attribute [local go_sem] Oper.semAt_some
theorem Aiy (w:World):(zeroValue 48).run Tryz.prog w=.ok (.agg #[.int .i64 0,.string ByteArray.empty]) w:=by kernel_rfl
theorem Aim{l:List Sec}(hl:l.length=4)(h:∀j:Nat,j<4->∃x,l[j]? =some x/\x.t=(j:Int)+1):l.map Sec.t=[1,2,3,4]:=by
 match l,hl with
 |[a,b,c,d],_=>
  obtain⟨q,e,m⟩:=h 0 (by omega);obtain⟨s,g,n⟩:=h 1 (by omega);obtain⟨u,i,o⟩:=h 2 (by omega);obtain⟨v,k,p⟩:=h 3 (by omega);simp at e g i k;subst e g i k;simp[m,n,o,p]
theorem Afe (s:List UInt8)(hs:s.length<=900000)(r:Nat)(W:World)(h:∃A cap l c,ArS s r W A cap l c/\Stg s 1 l c):Calls Tryz.prog 40 #[.pointer (some ⟨r,0,none⟩)] W λev w'=>StepR s r 1 W w' ev:=by
 obtain⟨A,cap,l,c,h,d⟩:=h;have c0:=h.row.cellv (i:=1) (v:=.slice A l.length cap) rfl;have ae:(l.length:Int)<=900000:=by have:=(XZ (d.h1 (by omega))).2;omega
 have g:Hid (ZF s=arL l):=by show _=_;unfold ZF;rw[d.h1 (by omega),if_neg (by simp)]
 have H:=Lv h;have ab:=Lv d;clear h d hs;by_cases hl:l.length=4;rotate_left
 ·have af:((l.length:Int) != 4)=true:=by simp;omega
  have o:Hid (ZF s=(J7,12)):=g.out.trans (AiI λe=>hl (by have:=congrArg List.length e;simpa using this));clear hl;go_enter Tryz.func40,Tryz.ntmps40
  go_wp2_with fail
  refine(Ui 12 W).mono ?_;rintro ev w9 ⟨v9,rfl,b,w⟩;have HV:=Lv b;have m:=Lv w;clear b w;go_wp2_with fail
  go_ret
  exact⟨v9,12,rfl,HV.out,.of_below m.out,λh=>absurd h (by decide),λ_=>o.out⟩
 rw[hl]at c0;have af:((4:Int) != 4)=false:=by decide
 have Hl:=Lv hl;clear ae hl;go_enter Tryz.func40,Tryz.ntmps40
 go_wp2_with fail
 go_loopw [17] (λi wr=>∃k:Nat,i=.int .i64 (k:Int)/\k<=4/\Hid (∀j,j<k->∃x,l[j]? =some x/\x.t=(j:Int)+1)/\Below W.heap.size W wr) (λi _=>4-(intOf i).toNat)
 case atStart=>exact⟨0,rfl,Nat.zero_le _,λj hj=>absurd hj (by omega),Below.refl _ _⟩
 case round=>
  obtain⟨k,rfl,hk,a,q⟩:=hrel;clear c0;by_cases aa:k<4;rotate_left
  ·obtain rfl:k=4:=by omega
   have HB:=Lv q;have Hm:=Lv (Aim Hl.out a.out);clear aa hk q;go_wp2_with fail
   go_ret
   exact⟨.nilIface,0,rfl,.inl ⟨rfl,rfl⟩,.of_below HB.out,λ_=>⟨A,cap,l,c,H.out.go HB.out,⟨λ_=>ab.out.h1 (by omega),λ_=>Hm.out,by omega,by omega,by omega,by omega,by omega⟩⟩,λh=>absurd rfl h⟩
  obtain⟨x,hx⟩:∃x,l[k]? =some x:=⟨_,Ld (by have:=Hl.out;omega)⟩;obtain⟨ad,ac,y⟩:=Yl (H.out.sec.go q) hx;have Hx:=Lv hx;have z:(k:Int)<4:=by omega
  have ah:(0:Int)<=(k:Int):=by omega
  rw[ac];clear hx aa;go_wp2_with (first| (refine Qn rfl 48 _ rfl (ad.add (k*2)) rfl (QO x).toList _ y Tryz.underlying48 rfl (by kernel_rfl) ?_)| (refine Qs _ rfl ?_))
  refine Stop.to ?_;refine Qi rfl 48 rfl _ _ (Aiy _) rfl ?_;intro M V0 hM rM bM;go_wp2_with (refine Qk _ _ _ rfl ?_)
  refine Stop.to ?_;refine Qh rfl 48 _ _ rfl M (QO x) rfl rfl 48 _ rM (by kernel_rfl) rfl (by simp[QO,Value.oneCell']) ?_;intro V1 r1 o1;have p:=q.trans (((bM.mono hM).trans (o1.below hM)).mono q.size);have c1:=r1.cellv (i:=0) (v:=.int .i64 x.t) rfl;clear rM bM hM o1 y q r1;by_cases u:x.t=(k:Int)+1
  ·have n:Hid (∀j,j<k+1->∃x,l[j]? =some x/\x.t=(j:Int)+1):=λj hj=>by
     by_cases e:j<k
     ·exact a.out j e
     ·obtain rfl:j=k:=by omega
      exact⟨x,Hx.out,u⟩
   have ag:(x.t != (k:Int)+1)=false:=by simp[u]
   clear u a Hx;go_wp2_with fail
   go_roundw
   case rel=>exact⟨k+1,by go_num,by omega,n,p⟩
   case measure=>simp[intOf];omega
  ·have ag:(x.t != (k:Int)+1)=true:=by simpa using u
   have o:Hid (ZF s=(J7,12)):=g.out.trans (AiI λe=>u (by
    have h1:(l.map Sec.t)[k]? =some x.t:=by rw[LR,Hx.out];rfl
    rw[e]at h1
    match k,z,h1 with
    |0,_,h1|1,_,h1|2,_,h1|3,_,h1=>simp at h1;omega
    |k+4,z,_=>omega))
   have HB:=Lv p;clear u a Hx p;go_wp2_with fail
   refine(Ui 12 V1).mono ?_;rintro ev w9 ⟨v9,rfl,b,w⟩;have HV:=Lv b;have m:=Lv w;clear b w;go_wp2_with fail
   go_ret
   exact⟨v9,12,rfl,HV.out,(RdEff.of_below HB.out).trans (.of_below m.out),λh=>absurd h (by decide),λ_=>o.out⟩
def arF:Nat->FuncId
 |0=>39
 |1=>40
 |2=>41
 |3=>42
 |4=>43
 |5=>44
 |_=>45
theorem Ame (k:Nat)(args:Array Value)(w:World):(callFunc (arF k) args).run Tryz.prog w=.ok (.enter (arF k) args) w:=by
 match k with
 |0|1|2|3|4|5|k+6=>(show _=_;kernel_rfl)
theorem Afi (s:List UInt8)(hs:s.length<=900000)(r k:Nat)(hk:k<7)(W:World)(h:∃A cap l c,ArS s r W A cap l c/\Stg s k l c):Calls Tryz.prog (arF k) #[.pointer (some ⟨r,0,none⟩)] W λev w'=>StepR s r k W w' ev:=by
 match k,hk,h with
 |0,_,h=>exact Afg s hs r W h
 |1,_,h=>exact Afe s hs r W h
 |2,_,h=>exact Afh s hs r W h
 |3,_,h=>exact AdM s hs r W h
 |4,_,h=>exact Aff s hs r W h
 |5,_,h=>exact AdL s hs r W h
 |6,_,h=>exact AdK s r W h
 |k+7,hk,_=>omega
def AbC (r k:Nat):Value:=.func (.func (arF k)) #[.pointer (some ⟨r,0,none⟩)] #[]
def AiG (r:Nat):Array Value:=#[AbC r 0,AbC r 1,AbC r 2,AbC r 3,AbC r 4,AbC r 5,AbC r 6]
theorem AiH{r k:Nat}(hk:k<7):(AiG r)[k]? =some (AbC r k):=by
 match k,hk with
 |0,_|1,_|2,_|3,_|4,_|5,_|6,_=>rfl
 |k+7,hk=>omega
theorem AkA (w:World):(zeroValue 31).run Tryz.prog w=.ok (.agg #[.int .i64 0,.slice none 0 0,.slice none 0 0,.slice none 0 0,.int .i64 0,.slice none 0 0,.int .i64 0,.int .i64 0,.int .i64 0]) w:=by kernel_rfl
theorem AkB (w:World):(zeroValue 69).run Tryz.prog w=.ok (.pointer none) w:=by kernel_rfl
structure DecR (s:List UInt8)(w w':World)(e:Ending)(c:CpV):Prop where
 e:e=.returned (.tuple #[.agg c.cells,.int .i64 (ZF s).2])
 m:c.data=(ZF s).1
 ok:CpOk w' c
 t:CpT w' c
 b:Below w.heap.size w w'
theorem ErrG.go{W W':World}(h:ErrG W)(b:Below W.heap.size W W'):ErrG W':=by
 unfold ErrG at h|-
 have a:0<W.heap.size:=by
  rcases Nj W.heap.size with c|d
  ·simp[World.cell?,c]at h
  ·exact d
 rw[<-h];exact World.cell?_of_block (b.block 0 a)
theorem RdEff.errG{W W':World}{g:Nat}(h:ErrG W)(hg:0<g)(b:RdEff g W W'):ErrG W':=by
 unfold ErrG at h|-
 have a:0<W.heap.size:=by
  rcases Nj W.heap.size with c|d
  ·simp[World.cell?,c]at h
  ·exact d
 rw[<-h];exact World.cell?_of_block (b.block 0 a (by omega))
structure DcL (s:List UInt8)(r R M k:Nat)(w W:World):Prop where
 st:∃A cap l c,ArS s r W A cap l c/\Stg s k l c
 res:Row W R 31 cp0.cells
 fns:Row W M 67 (AiG r)
 b:Below w.heap.size w W
 g:ErrG W
theorem DcL.go{s:List UInt8}{r R M k:Nat}{w W W':World}(h:DcL s r R M k w W)(b:Below W.heap.size W W'):DcL s r R M k w W':=by
 obtain⟨A,a,l,c,d,e⟩:=h.st;exact⟨⟨A,a,l,c,d.go b,e⟩,h.res.below b h.res.lt,h.fns.below b h.fns.lt,h.b.trans (b.mono h.b.size),h.g.go b⟩
theorem KO (s:List UInt8)(hs:s.length<=900000)(w:World)(hg:ErrG w):Calls Tryz.prog 13 #[.string ⟨s.toArray⟩] w λe w'=>∃c,DecR s w w' e c:=by
 have Hs:=Lv hs;have Hg:=Lv hg
 have av:0<w.heap.size:=by
  rcases Nj w.heap.size with h0|h1
  ·unfold ErrG at hg;simp[World.cell?,h0]at hg
  ·exact h1
 clear hs hg;go_enter Tryz.func13,Tryz.ntmps13
 go_wp2_with (first|fail| (refine Qs _ rfl ?_))
 refine Stop.to ?_;refine Qi rfl 31 rfl _ _ (AkA _) rfl ?_;intro R Rw Rh Rr Rb;have aq:∀W:World,(Instr.build 66 #[(0,.string ⟨s.toArray⟩)]).run Tryz.prog W=.ok (.agg (Aaf s none 0 0 cp0)) W:=λW=>by kernel_rfl
 go_wp2_with (refine Qx _ _ rfl ?_)
 refine Stop.to ?_;refine Qf rfl 66 _ rfl (Aaf s none 0 0 cp0) rfl ?_;intro E Ew Eh Er Eb;go_wp2_with (refine QY _ _ _ rfl ?_)
 refine Stop.to ?_;refine Qw rfl 68 7 _ rfl 67 (AiG E) (λW=>by kernel_rfl) ?_;intro M w4 hM rM bM;have au:R<E:=Lg Rr.lt Eh;have a1:E<M:=Lg Er.lt hM;have b2:Below w.heap.size w w4:=(((Below.refl w.heap.size w).trans (Rb.mono Rh)).trans (Eb.mono (by have:=Rr.lt;omega))).trans (bM.mono (by have:=Er.lt;omega));have a:Hid (DcL s E R M 0 w w4):=⟨⟨none,0,[],cp0,⟨Er.below (bM.mono hM) Er.lt,Rd.nil _ _,λ_ e=>(by cases e),UA _,CpT.zero _⟩,⟨by omega,by omega,by omega,by omega,by omega,by omega,by omega⟩⟩,(Rr.below (Eb.mono Eh) Rr.lt).below (bM.mono hM) (Nat.lt_trans au Er.lt),rM,b2,Hg.out.go b2⟩;have am:w.heap.size<=R:=Rh;clear Rr Rb Rh Er Eb Eh rM bM hM b2 aq;go_wp2_with fail
 go_loopw [27] (λi wr=>∃k:Nat,i=.int .i64 (k:Int)/\k<=7/\Hid (DcL s E R M k w wr)) (λi _=>7-(intOf i).toNat)
 case atStart=>exact⟨0,rfl,Nat.zero_le _,a⟩
 case round=>
  clear a;obtain⟨k,rfl,hk,a⟩:=hrel;by_cases ac:k<7;rotate_left
  ·obtain rfl:k=7:=by omega
   obtain⟨A,aw,l,c,q,al⟩:=a.out.st;have hl:=AbX q.row;have rR:=a.out.res;have af:=Lv al;have HS:=Lv q;clear hk ac al q;go_wp2_with (first| (refine Qn rfl 31 _ rfl ⟨E,2,none⟩ rfl c.cells.toList _ hl Tryz.underlying31 rfl (by kernel_rfl) ?_)| (refine Qk _ _ _ rfl ?_))
   refine Stop.to ?_;refine Qh rfl 31 _ _ rfl R c.cells rfl rfl 31 _ rR (by kernel_rfl) rfl (by simp[Value.oneCell',CpV.cells]) ?_;intro w9 r9 z;have HO:=Lv (VS HS.out.ok HS.out.t z rR (by decide) (by decide) (by decide) (by decide));have HB:=Lv (Ql a.out.b z am);clear z rR hl a;go_wp2_with fail
   refine bodyPost_ret (Qv Tryz.results13 _ _ R 31 _ (0,0) _ rfl r9 Tryz.underlying31 rfl (by kernel_rfl)) rfl ?_;exact⟨c,by rw[af.out.ok];rfl,by rw[af.out.ok],HO.out.1,HO.out.2,HB.out⟩
  have az:(k:Int)<7:=by omega
  have ay:(0:Int)<=(k:Int):=by omega
  have cM:=a.out.fns.cellv (i:=k) (v:=AbC E k) (AiH ac);unfold AbC at cM;have ah:=a.out.fns.lt;go_wp2_with (refine Qs _ rfl ?_)
  refine Stop.to ?_;refine Qi rfl 69 rfl _ _ (AkB _) rfl ?_;intro T w5 hT rT bT;replace a:=Lv (a.out.go (bT.mono hT));have a2:M<T:=Lg ah hT;have an:Row w5 T 69 #[.pointer none]:=rT;have HS:=Lv (Afi s Hs.out E k ac w5 a.out.st);have ax:=Ame k;clear bT hT cM rT ah;go_wp2_with fail
  refine HS.out.mono ?_;rintro ev w6 ⟨v,told,rfl,hv,he,y,ak⟩;have ap:0<E:=by omega
  have o:=he.row an (by omega);have d:=he.row a.out.res (by omega);have m:=he.row a.out.fns (by omega);have b6:=a.out.b.trans (he.below (show w.heap.size<=E by omega) a.out.b.size);have g6:=he.errG a.out.g ap;have p:=Lv y;have ae:=Lv ak;clear he y ak HS an a;rcases hv with⟨rfl,rfl⟩|⟨aj,f,x,rfl,hf⟩
  ·have HN:Hid (DcL s E R M (k+1) w w6):=⟨p.out rfl,d,m,b6,g6⟩;clear d m b6 g6 o;go_wp2_with fail
   refine(Amg _ w6).mono ?_;rintro ev w7 ⟨rfl,rfl⟩;go_wp2_with fail
   go_roundw
   case rel=>exact⟨k+1,by go_num,by omega,HN⟩
   case measure=>simp[intOf];omega
  ·have Hd:=Lv (ae.out aj);go_wp2_with fail
   refine(AiJ ⟨f,0,none⟩ T (.pointer none) w6 g6 o).mono ?_;rintro ev w7 ⟨rfl,ad,V,bV,oT⟩
   have ar:f≠T:=λe=>by
    rw[e]at hf;have h:w6.heap[T]? =_:=hf;rw[show w6.heap[T]? =_ from o]at h;injection h with h;injection h with _ h;exact absurd h (by decide)
   have ab:=(hf.below bV hf.lt).only oT ar;have n:=(d.below bV d.lt).only oT (by omega);have j:=Lv (Ql (b6.trans (bV.mono b6.size)) oT (by omega));have a0:∀W:World,(Instr.build 31 #[]).run Tryz.prog W=.ok (.agg #[.int .i64 0,.slice none 0 0,.slice none 0 0,.slice none 0 0,.int .i64 0,.slice none 0 0,.int .i64 0,.int .i64 0,.int .i64 0]) W:=λW=>by kernel_rfl
   clear hf o m d b6 g6 bV oT p ae aj;go_wp2_with fail
   obtain⟨Vd,aa⟩:∃Vd,Vd=w7.drew:=⟨_,rfl⟩;have bd:Below w7.heap.size w7 Vd:=by rw[aa];exact St.drew (S:=λW=>Below w7.heap.size w7 W) (Below.refl _ _)
   have q:(λW=>Row W T 69 #[.pointer (some ⟨f,0,none⟩)]/\Row W f 75 #[.int .i64 told,x]) Vd:=⟨ad.below bd ad.lt,ab.below bd ab.lt⟩;have rR:=n.below bd n.lt;replace j:=Lv (j.out.trans (bd.mono j.out.size));refine wp_region_held (S:=λW=>Row W T 69 #[.pointer (some ⟨f,0,none⟩)]/\Row W f 75 #[.int .i64 told,x]) (by kernel_rfl) ?_;simp only[Ly,Le,Ll,Nat.reduceAdd,Ln,Lp,Lz,Lu,Lk];show wpAnyH _ _ _ _ _ _ _ _ w7.drew;rw[<-aa];clear aa ad ab n bd;(refine tkH 0 (.agg #[.int .i64 0,.slice none 0 0,.slice none 0 0,.slice none 0 0,.int .i64 0,.slice none 0 0,.int .i64 0,.int .i64 0,.int .i64 0]) rfl (Qd rfl (λW hW=>by(go_simp))) ?_;simp only[Act.put,Qa,Qb,Qc]);(refine tkH 1 (.pointer (some ⟨f,0,none⟩)) rfl (Qd rfl (λW hW=>by((have c:=Row.cellv hW.1 (i:=0) rfl;go_simp)))) ?_;simp only[Act.put,Qa,Qb,Qc]);(refine tkH 2 (.pointer (some ⟨f,0,none⟩)) rfl (Qd rfl (λW hW=>by(go_simp))) ?_;simp only[Act.put,Qa,Qb,Qc]);(refine tkH 3 (.pointer (some ⟨f,0,none⟩)) rfl (Qd rfl (λW hW=>by(go_simp))) ?_;simp only[Act.put,Qa,Qb,Qc]);(refine tkH 4 (.int .i64 told) rfl (Qd rfl (λW hW=>by((have c:=Row.cellv hW.2 (i:=0) rfl;go_simp)))) ?_;simp only[Act.put,Qa,Qb,Qc]);(refine wpAnyH_all (rs:=[5]) (by kernel_rfl) (by simp) (λi hi=>?_);obtain rfl:i=5:=by simpa using hi);refine Qg rfl rfl (λK2 ag=>?_);refine VJ 31 _ _ rfl R cp0.cells rfl rfl 31 _ rR (by kernel_rfl) rfl (by simp[Value.oneCell',CpV.cells,cp0]) ?_;intro w9 r9 z;refine ag _ _ ?_;clear ag K2;simp only[Act.put,Qa,Qb,Qc]
   have u:f≠R:=λe=>by
    have h8:=q.2;rw[e]at h8;have h:Vd.heap[R]? =_:=h8;rw[show Vd.heap[R]? =_ from rR]at h;injection h with h;injection h with _ h;exact absurd h (by decide)
   have ao:=Lv (Ql j.out z am);have ai:Row w9 T 69 #[.pointer (some ⟨f,0,none⟩)]/\Row w9 f 75 #[.int .i64 told,x]:=⟨q.1.only z (by omega),q.2.only z u⟩;refine⟨ai,?_⟩;(refine tkH 6 (.int .i64 told) rfl (Qd rfl (λW hW=>by(go_simp))) ?_;simp only[Act.put,Qa,Qb,Qc]);refine wpAnyH_done (by kernel_rfl) ?_ _;clear q ai rR z u j;go_wp2_with fail
   refine bodyPost_ret (Qv Tryz.results13 _ _ R 31 _ (0,0) _ rfl r9 Tryz.underlying31 rfl (by kernel_rfl)) rfl ?_;exact⟨cp0,by rw[Hd.out];rfl,by rw[Hd.out];rfl,UA _,CpT.zero _,ao.out⟩
def enF:Nat->FuncId
 |0=>24
 |1=>26
 |2=>28
 |_=>30
theorem Amj (k:Nat)(args:Array Value)(w:World):(callFunc (enF k) args).run Tryz.prog w=.ok (.enter (enF k) args) w:=by
 match k with
 |0|1|2|k+3=>(show _=_;kernel_rfl)
theorem Aj9{x:Cd}{k:Nat}(hk:k<4):∃y,(ZR x)[k]? =some y/\y.t=(k:Int)+1:=by
 match k,hk with
 |0,_|1,_|2,_|3,_=>exact⟨_,rfl,rfl⟩
 |k+4,hk=>omega
theorem AhA (c:CpV)(C k:Nat)(hk:k<4)(hz:QQ c=0)(hi:IntD c.data)(W:World)(hc:CpOk W c)(hr:Row W C 31 c.cells):Calls Tryz.prog (enF k) #[.pointer (some ⟨C,0,none⟩)] W λe w'=>e=.returned (.tuple #[.string ⟨((ZR c.data).getD k ⟨0,[]⟩).d.toArray⟩,.int .i64 0])/\Below W.heap.size W w':=by
 have n:=Amq (x:=c.data) (by rw[Jd];exact hz) hi;have u:=hr.cellv (i:=3) (v:=.slice c.tA c.tests.length c.tcap) rfl;have w:=hr.cellv (i:=4) (v:=.int .i64 c.fuel) rfl;have y:=hr.cellv (i:=5) (v:=.slice c.mA c.mts.length c.mcap) rfl
 match k,hk with
 |0,_=>
  have o:=Xn hr;have j:YT c.p=(JD c.data.pd,0):=by unfold YT;rw[if_neg (λh=>h (by have:=n.pd.1;rw[<-Y4];exact this))];rfl
  show Calls Tryz.prog 24 _ _ _;have a:=Lv (YC c.p hc.bl W hc.pok);go_enter Tryz.func24,Tryz.ntmps24
  go_wp2_with (refine Qn rfl 25 _ rfl ⟨C,0,none⟩ rfl c.p.cells.toList _ o Tryz.underlying25 rfl (by kernel_rfl) ?_)
  refine a.out.mono ?_;rintro e q ⟨rfl,b⟩;rw[j];have g:=Lv b;clear b a;go_wp2_with fail
  go_ret2
  exact⟨rfl,g.out⟩
 |1,_=>
  have j:XB (c.tests.map IntsV.l,c.fuel)=(Jt c.data.su,0):=Vg (x:=c.data.su) ⟨n.su.1,n.su.2.1⟩;show Calls Tryz.prog 26 _ _ _;have a:=Lv (VA c.tA c.tcap c.tests c.fuel W hc.trd (by have:=hc.tlen;omega) hc.tok);go_enter Tryz.func26,Tryz.ntmps26
  go_wp2_with (fail)
  refine a.out.mono ?_;rintro e q ⟨rfl,b⟩;rw[j];have g:=Lv b;clear b a;go_wp2_with fail
  go_ret2
  exact⟨rfl,g.out⟩
 |2,_=>
  have j:Kc (c.mts.map MtV.m)=(ZC c.data.muts,0):=by
   show Kc c.data.muts=_;unfold Kc;rw[if_pos ⟨n.ms.1,Nm.2 λm s=>(n.ms.2 m s).1⟩]
  show Calls Tryz.prog 28 _ _ _;have a:=Lv (YS c.mA c.mcap c.mts.length c.mts W rfl hc.mrd hc.mok (λx t=>hi.muts x.m (LL.2 ⟨x,t,rfl⟩)) (by have:=hc.mlen;omega));go_enter Tryz.func28,Tryz.ntmps28
  go_wp2_with (fail)
  refine a.out.mono ?_;rintro e q ⟨rfl,b⟩;rw[j];have g:=Lv b;clear b a;go_wp2_with fail
  go_ret2
  exact⟨rfl,g.out⟩
 |3,_=>
  have o:=Ad0 hr;have j:EI c.sc=(Kj c.data.sc,0):=if_pos n.sc;show Calls Tryz.prog 30 _ _ _;have a:=Lv (Vf c.sc W);go_enter Tryz.func30,Tryz.ntmps30
  go_wp2_with (refine Qn rfl 29 _ rfl ⟨C,6,none⟩ rfl c.sc.cells.toList _ o Tryz.underlying29 rfl (by kernel_rfl) ?_)
  refine a.out.mono ?_;rintro e q ⟨rfl,b⟩;rw[j];have g:=Lv b;clear b a;go_wp2_with fail
  go_ret2
  exact⟨rfl,g.out⟩
 |k+4,hk=>omega
end Go.Proofs.YtgnmkiafeplbpaaGreatDoor
namespace Go.Proofs.YtgnmkiafeplbpaaGreatDoor
open Go.RowKit Go.Deep
attribute [local go_sem] Oper.semAt_some
def AfH (C k:Nat):Value:=.func (.func (enF k)) #[] #[.pointer (some ⟨C,0,none⟩)]
def Ajc (C:Nat):Array Value:=#[AfH C 0,AfH C 1,AfH C 2,AfH C 3]
theorem Ajd{C k:Nat}(hk:k<4):(Ajc C)[k]? =some (AfH C k):=by
 match k,hk with
 |0,_|1,_|2,_|3,_=>rfl
 |k+4,hk=>omega
structure EnL (c:CpV)(C M lim k:Nat)(w W:World)(v:Value):Prop where
 row:Row W C 31 c.cells
 fns:Row W M 57 (Ajc C)
 own:W.ownsRow lim 48 2 v k (Zy ((ZR c.data).take k))
 b:Below w.heap.size w W
 lim:lim<=W.heap.size
theorem EnL.go{c:CpV}{C M lim k:Nat}{w W W':World}{v:Value}(h:EnL c C M lim k w W v)(b:Below W.heap.size W W'):EnL c C M lim k w W' v:=
 ⟨h.row.below b h.row.lt,h.fns.below b h.fns.lt,QU h.own b,h.b.trans (b.mono h.b.size),Lj h.lim b.size⟩
theorem Ek (x:Cd):(ZR x).length=4:=rfl
theorem AeS{x:Cd}(h:Jl x=0)(hi:IntD x):∀y∈ZR x,y.d.length<=900000:=λy hy=>by
 have a:=KQ hy;have b:=Acg h hi;omega
theorem Z1 (c:CpV)(w:World)(hc:CpOk w c)(hi:IntD c.data):Calls Tryz.prog 11 #[.agg c.cells] w λe w'=>e=.returned (.tuple #[.string ⟨(Jn c.data).1.toArray⟩,.int .i64 (Jn c.data).2])/\Below w.heap.size w w':=by
 have Hc:=Lv hc;have Hi:=Lv hi;obtain⟨z,hz⟩:∃z,z=Jn c.data:=⟨_,rfl⟩;rw[<-hz];have Hz:=Lv hz;clear hc hi hz;go_enter Tryz.func11,Tryz.ntmps11
 go_wp2_with (refine Qx _ _ rfl ?_)
 refine Stop.to ?_;refine Qf rfl 31 _ rfl c.cells rfl ?_;intro C Cw Ch Cr Cb;have b1:=(Below.refl w.heap.size w).trans (Cb.mono Ch);have HK:=Lv (Xm c Cw (Hc.out.go b1));go_wp2_with (refine wpList_load_row rfl 31 _ rfl C rfl 31 c.cells (0,0) _ Cr Tryz.underlying31 rfl (by kernel_rfl) ?_)
 refine HK.out.mono ?_;rintro e w2 ⟨rfl,b2⟩;have r2:=Cr.below b2 Cr.lt;have B2:=Lv (b1.trans (b2.mono b1.size));have ac:Hid (w.heap.size<=C):=Ch;clear Cr Cb Ch b1 b2 HK;by_cases o:QQ c=0;rotate_left
 ·have ak:(QQ c != 0)=true:=by simpa using o
  obtain rfl:z=([],QQ c):=Hz.out.trans (by unfold Jn;rw[Jd,if_pos o]);clear o;go_wp2_with fail
  go_ret2
  exact⟨rfl,B2.out⟩
 have hD:Jl c.data=0:=by rw[Jd];exact o
 have HS:Hid (z=K8 (ZR c.data)):=Hz.out.trans (by unfold Jn;rw[if_neg (λh=>h hD)]);have ab:=Lv (AeS hD Hi.out);have Hk:=Lv o;rw[o];clear hD o Hz;go_wp2_with (refine QY _ _ _ rfl ?_)
 refine Stop.to ?_;refine Qw rfl 61 4 _ rfl 57 (Ajc C) (λW=>by kernel_rfl) ?_;intro M w3 hM rM bM;obtain⟨lim,l⟩:∃lim,lim=w3.heap.size:=⟨_,rfl⟩;have a:Hid (EnL c C M lim 0 w w3 (.slice none 0 0)):=⟨r2.below (bM.mono hM) r2.lt,rM,World.ownsRow_nil _ _ _ _,B2.out.trans ((bM.mono hM).mono B2.out.size),LI l⟩;have af:C<lim/\M<lim:=by rw[l];exact⟨a.out.row.lt,rM.lt⟩
 clear r2 B2 hM rM bM l;go_wp2_with fail
 go_loopw [5,21] (λv i wr=>∃k:Nat,i=.int .i64 (k:Int)/\k<=4/\Hid (EnL c C M lim k w wr v)) (λ_ i _=>4-(intOf i).toNat)
 case atStart=>exact⟨0,rfl,Nat.zero_le _,a⟩
 case round=>
  clear a;obtain⟨k,rfl,o,a⟩:=hrel;by_cases p:k<4;rotate_left
  ·obtain rfl:k=4:=by omega
   obtain⟨A,cap,rfl,s, -, -, -, -⟩:=JM a.out.own;have hQ:=Aj8 A cap (ZR c.data) ab.out (by rw[Ek];omega) wr (by rw[Lm (by rw[Ek];omega)]at s;exact s);rw[<-HS.out,Ek]at hQ;have HQ:=Lv hQ;have HB:=Lv a.out.b;clear o p hQ s a;go_wp2_with fail
   refine HQ.out.mono ?_;rintro e w9 ⟨rfl,b9⟩;have aa:=Lv (HB.out.trans (b9.mono HB.out.size));clear b9 HQ;go_wp2_with fail
   go_ret2
   exact⟨rfl,aa.out⟩
  have ai:(k:Int)<4:=by omega
  have ah:(0:Int)<=(k:Int):=by omega
  have cM:=a.out.fns.cellv (i:=k) (v:=AfH C k) (Ajd p);unfold AfH at cM;have ag:=Amj k;have HP:=Lv (AhA c C k p Hk.out Hi.out wr (Hc.out.go a.out.b) a.out.row);obtain⟨y,hy,u⟩:=Aj9 (x:=c.data) p;rw[LP,hy]at HP;have Hy:=Lv hy;have ad:=Lv u;clear hy u;go_wp2_with fail
  refine HP.out.mono ?_;rintro e w5 ⟨rfl,b5⟩;replace a:=Lv (a.out.go b5);have ae:∀W:World,(Instr.build 48 #[(0,.int .i64 ((k:Int)+1)),(1,.string ⟨y.d.toArray⟩)]).run Tryz.prog W=.ok (.agg #[.int .i64 ((k:Int)+1),.string ⟨y.d.toArray⟩]) W:=λW=>by kernel_rfl
  have aj:IntKind.i64.wrap ((k:Int)+1)=(k:Int)+1:=IntWalk.i64_in _ (by omega);clear b5 cM HP;go_wp2_with (refine QY _ _ _ rfl ?_)
  refine Stop.to ?_;refine Qw rfl 43 1 _ rfl 48 #[.int .i64 ((k:Int)+1),.string ⟨y.d.toArray⟩] (λW=>by kernel_rfl) ?_;intro X w6 hX rX bX;replace a:=Lv (a.out.go (bX.mono hX));obtain⟨v8,w8,n,j,g, -⟩:=Zq (P:=Tryz.prog) 43 48 (.agg (QO ⟨0,[]⟩)) 2 24 Tryz.underlying43 Aen rfl (by decide) (by decide) a.out.own a.out.lim (Z6 (cs:=Zy [y]) (by rw[show(Zy [y]).toArray=#[.int .i64 y.t,.string ⟨y.d.toArray⟩]from rfl,ad.out];exact rX)) (m:=1) (cap:=1) rfl (AcP [y]) (by simp) (by omega);rw[<-Vt, <-show(ZR c.data).take (k+1)=(ZR c.data).take k++[y] by rw[L5,Hy.out];rfl]at j;have HN:Hid (EnL c C M lim (k+1) w w8 v8):=⟨a.out.row.grown g (QK a.out.own a.out.row (by decide)),a.out.fns.grown g (QK a.out.own a.out.fns (by decide)),j,QJ a.out.b a.out.own g a.out.b.size (by have:=ac.out;omega),Lj a.out.lim g.size⟩;have q:=Lv n;clear hX rX bX n j g a ae;refine Zc rfl _ (QF rfl q.out) ?_;go_wp2_with fail
  go_roundw
  case rel=>exact⟨k+1,by go_num,by omega,HN⟩
  case measure=>simp[intOf];omega
end Go.Proofs.YtgnmkiafeplbpaaGreatDoor
namespace Go.Proofs.YtgnmkiafeplbpaaGreatDoor
open Go.RowKit Go.Deep
instance St.errG:St ErrG:=⟨λh b=>h.go b⟩
theorem Y2 (w:World)(hg:ErrG w):Calls Tryz.prog 9 #[] w λe w'=>e=.returned (.bool true)/\Below w.heap.size w w':=by
 go_enter Tryz.func9,Tryz.ntmps9
 obtain⟨S0,bi,av,ag,ap⟩:=Yv (w:=w) (λW=>Below w.heap.size w W) (λW=>ErrG W) (Below.refl _ _) (hg);clear hg;go_wp2_with (refine QY _ _ _ rfl ?_)
 refine Stop.to ?_;refine Qw rfl 22 1 _ rfl 3 (Qj [0]).toArray (Kl Tryz.underlying22 AgC (by decide) (by decide) (by kernel_rfl)) ?_;intro d bp h j i;have a:=bi.go av.out (i.mono h);obtain⟨S1,bj,aw,D1,au⟩:=Yv (w:=bp) S0 (λW=>Row W d 3 (Qj [0]).toArray) a (j);clear a av h j i;go_wp2_with (refine QY _ _ _ rfl ?_)
 refine Stop.to ?_;refine Qw rfl 23 3 _ rfl 52 (bodyE.flatMap Nd.cells).toArray (Kl Tryz.underlying23 Alp (by decide) (by decide) (by kernel_rfl)) ?_;intro g am h j i;have a:=bj.go aw.out (i.mono h);obtain⟨S2,bk,ax,D2,aq⟩:=Yv (w:=am) S1 (λW=>Row W g 52 (bodyE.flatMap Nd.cells).toArray) a (j);clear a aw h j i;go_wp2_with (refine Qs _ rfl ?_)
 refine Stop.to ?_;refine Qi rfl 25 rfl _ _ AkE rfl ?_;intro ai bw h j i;go_wp2_with (refine Qk _ _ _ rfl ?_)
 refine Stop.to ?_;refine Qh rfl 25 _ _ rfl ai #[.int .i64 1,.slice (some ⟨d,0,none⟩) 1 1,.slice (some ⟨g,0,none⟩) 3 3] rfl rfl 25 _ j (by kernel_rfl) rfl (by simp[Value.oneCell']) ?_;intro bc y x;have t:Below (am).heap.size am bc:=(i.mono h).trans (x.below h);have a:=bk.go ax.out (t);obtain⟨S3,bl,aj,D3,be⟩:=Yv (w:=bc) S2 (λW=>Row W ai 25 #[.int .i64 1,.slice (some ⟨d,0,none⟩) 1 1,.slice (some ⟨g,0,none⟩) 3 3]) a (y);clear a ax h j i y x t;go_wp2_with (first| (refine wpList_load_row rfl 25 _ rfl ai rfl 25 #[.int .i64 1,.slice (some ⟨d,0,none⟩) 1 1,.slice (some ⟨g,0,none⟩) 3 3] (0,0) _ (be.out _ aj.out) Tryz.underlying25 rfl (by kernel_rfl) ?_)| (refine QY _ _ _ rfl ?_))
 refine Stop.to ?_;refine Qw rfl 22 1 _ rfl 3 (Qj [1]).toArray (Kl Tryz.underlying22 AgC (by decide) (by decide) (by kernel_rfl)) ?_;intro k bq h j i;have a:=bl.go aj.out (i.mono h);obtain⟨S4,bm,ay,D4,ar⟩:=Yv (w:=bq) S3 (λW=>Row W k 3 (Qj [1]).toArray) a (j);clear a aj h j i;go_wp2_with (refine QY _ _ _ rfl ?_)
 refine Stop.to ?_;refine Qw rfl 26 1 _ rfl 22 (ZU [tvE k]).toArray (Kl Tryz.underlying26 Alq (by decide) (by decide) (by kernel_rfl)) ?_;intro c z h j i;have a:=bm.go ay.out (i.mono h);obtain⟨S5,bn,az,D5,ao⟩:=Yv (w:=z) S4 (λW=>Row W c 22 (ZU [tvE k]).toArray) a (j);clear a ay h j i;go_wp2_with (refine Qs _ rfl ?_)
 refine Stop.to ?_;refine Qi rfl 31 rfl _ _ (VK _) rfl ?_;intro p br h j i;go_wp2_with (refine Qk _ _ _ rfl ?_)
 refine Stop.to ?_;refine Qh rfl 31 _ _ rfl p #[.int .i64 1,.slice (some ⟨d,0,none⟩) 1 1,.slice (some ⟨g,0,none⟩) 3 3,.slice (some ⟨c,0,none⟩) 1 1,.int .i64 9,.slice none 0 0,.int .i64 0,.int .i64 0,.int .i64 0] rfl rfl 31 _ j (by kernel_rfl) rfl (by simp[Value.oneCell']) ?_;intro aa y x;have t:Below (z).heap.size z aa:=(i.mono h).trans (x.below h);have a:=bn.go az.out (t);obtain⟨S6,a6,n,D6,an⟩:=Yv (w:=aa) S5 (λW=>Row W p 31 #[.int .i64 1,.slice (some ⟨d,0,none⟩) 1 1,.slice (some ⟨g,0,none⟩) 3 3,.slice (some ⟨c,0,none⟩) 1 1,.int .i64 9,.slice none 0 0,.int .i64 0,.int .i64 0,.int .i64 0]) a (y);clear a az h j i y x t;have q:Hid (∀W,S6 W->CpOk W (dE d g k c 9)):=by show ∀W,_;exact λW hW=>AmM (au.out _ (D2.out _ (D3.out _ (D4.out _ (D5.out _ (D6.out _ hW)))))) (aq.out _ (D3.out _ (D4.out _ (D5.out _ (D6.out _ hW))))) (ar.out _ (D5.out _ (D6.out _ hW))) (ao.out _ (D6.out _ hW))
 obtain⟨sx,lx,he,a5,hd,ho,a4⟩:=Ami d g k c;have a1:=Lv a5;have He:=Lv he;have Hd:=Lv hd;have Ho:=Lv ho;have bf:=Lv a4;clear he a5 hd ho a4;go_wp2_with (refine wpList_load_row rfl 31 _ rfl p rfl 31 #[.int .i64 1,.slice (some ⟨d,0,none⟩) 1 1,.slice (some ⟨g,0,none⟩) 3 3,.slice (some ⟨c,0,none⟩) 1 1,.int .i64 9,.slice none 0 0,.int .i64 0,.int .i64 0,.int .i64 0] (0,0) _ (an.out _ n.out) Tryz.underlying31 rfl (by kernel_rfl) ?_)
 refine(Z1 (dE d g k c 9) aa (q.out _ n.out) (AfA d g k c)).mono ?_;rintro e a8 ⟨rfl,u⟩;rw[He.out];dsimp only;have a:=a6.go n.out (u);replace n:=Lv a;clear a u;go_wp2_with fail
 refine(KO sx a1.out a8 (ap.out _ (D1.out _ (D2.out _ (D3.out _ (D4.out _ (D5.out _ (D6.out _ n.out)))))))).mono ?_;rintro e ab ⟨c2,v⟩;have a2:=v.e;have Hm:Hid (c2.data=(dE d g k c 9).data):=by show _=_;rw[v.m,Hd.out]
 rw[Hd.out]at a2;subst a2;have a:=a6.go n.out (v.b);obtain⟨S7,bo,a0,D7,ah⟩:=Yv (w:=ab) S6 (λW=>CpOk W c2) a (v.ok);clear a n v;go_wp2_with (refine Qs _ rfl ?_)
 refine Stop.to ?_;refine Qi rfl 31 rfl _ _ (VK _) rfl ?_;intro s bs h j i;go_wp2_with (refine Qk _ _ _ rfl ?_)
 refine Stop.to ?_;refine Qh rfl 31 _ _ rfl s c2.cells rfl rfl 31 _ j (by kernel_rfl) rfl (by simp[Value.oneCell',CpV.cells]) ?_;intro ac y x;have t:Below (ab).heap.size ab ac:=(i.mono h).trans (x.below h);have a:=bo.go a0.out (t);obtain⟨S8,al,o,D8,bd⟩:=Yv (w:=ac) S7 (λW=>Row W s 31 c2.cells) a (y);clear a a0 h j i y x t;go_wp2_with fail
 refine(Z1 cp0 ac (UA _) AkX).mono ?_;rintro e a9 ⟨rfl,u⟩;rw[Alb];dsimp only;have a:=al.go o.out (u);replace o:=Lv a;clear a u;go_wp2_with fail
 refine(KO [] (by simp) a9 (ap.out _ (D1.out _ (D2.out _ (D3.out _ (D4.out _ (D5.out _ (D6.out _ (D7.out _ (D8.out _ o.out)))))))))).mono ?_;rintro e af ⟨c3,ak⟩;have a3:=ak.e;rw[Ak5]at a3;subst a3;have a:=al.go o.out (ak.b);replace o:=Lv a;clear a ak;go_wp2_with (refine Qs _ rfl ?_)
 refine Stop.to ?_;refine Qi rfl 31 rfl _ _ (VK _) rfl ?_;intro ae bt h j i;go_wp2_with (refine Qk _ _ _ rfl ?_)
 refine Stop.to ?_;refine Qh rfl 31 _ _ rfl ae c3.cells rfl rfl 31 _ j (by kernel_rfl) rfl (by simp[Value.oneCell',CpV.cells]) ?_;intro ad y x;have t:Below (af).heap.size af ad:=(i.mono h).trans (x.below h);have a:=al.go o.out (t);obtain⟨S9,a7,l,D9,bv⟩:=Yv (w:=ad) S8 (λW=>Row W ae 31 c3.cells) a (y);clear a o h j i y x t;go_wp2_with fail
 refine(AeG sx a1.out ad).mono ?_;rintro e ba ⟨A5,k5,rfl,bh,u,bg⟩;rw[Ho.out];dsimp only;rw[bf.out];have a:=a7.go l.out (u);replace l:=Lv a;clear a u bh bg;go_wp2_with (first| (refine wpList_load_row rfl 31 _ rfl p rfl 31 #[.int .i64 1,.slice (some ⟨d,0,none⟩) 1 1,.slice (some ⟨g,0,none⟩) 3 3,.slice (some ⟨c,0,none⟩) 1 1,.int .i64 9,.slice none 0 0,.int .i64 0,.int .i64 0,.int .i64 0] (0,0) _ (an.out _ (D7.out _ (D8.out _ (D9.out _ l.out)))) Tryz.underlying31 rfl (by kernel_rfl) ?_)| (refine wpList_load_row rfl 31 _ rfl s rfl 31 c2.cells (0,0) _ (bd.out _ (D9.out _ l.out)) Tryz.underlying31 rfl (by kernel_rfl) ?_))
 refine(Ut (dE d g k c 9) c2 ba (q.out _ (D7.out _ (D8.out _ (D9.out _ l.out)))) (ah.out _ (D8.out _ (D9.out _ l.out)))).mono ?_;rintro e bu ⟨rfl,u⟩;rw[show JE (dE d g k c 9) c2=true from sameC_iff.2 Hm.out.symm];have a:=a7.go l.out (u);replace l:=Lv a;clear a u;go_wp2_with fail
 go_ret
 exact⟨rfl,(ag.out _ (D1.out _ (D2.out _ (D3.out _ (D4.out _ (D5.out _ (D6.out _ (D7.out _ (D8.out _ (D9.out _ l.out))))))))))⟩
theorem Adf{W:World}{c:CpV}(h:CpOk W c)(i:CpIn c):IntD c.data:=
 ⟨λy hy=>(h.pok.bin y hy).2,λl hl n hn=>by
  have hl:l∈c.tests.map IntsV.l:=hl
  obtain⟨x,hx,rfl⟩:=LL.1 hl
  exact(h.tok x hx).all n hn,λm hm=>by
  have hm:m∈c.mts.map MtV.m:=hm
  obtain⟨x,hx,rfl⟩:=LL.1 hm
  exact⟨(i.mts x hx).n,(i.mts x hx).value⟩⟩
theorem XK (c:CpV)(w:World)(hg:ErrG w)(hc:CpRaw w c/\CpIn c):Calls Tryz.prog 5 #[.agg c.cells] w λe w'=>e=.returned (.bool true)/\Below w.heap.size w w':=by
 go_enter Tryz.func5,Tryz.ntmps5
 obtain⟨S0,ak,ac,n,ab,y⟩:=Am9 (w:=w) (λW=>Below w.heap.size w W) (λW=>ErrG W) (λW=>CpRaw W c) (Below.refl _ _) (hg) (hc.1);have aj:=Lv hc.2;clear hc hg;go_wp2_with (refine Qx _ _ rfl ?_)
 refine Stop.to ?_;refine Qf rfl 31 _ rfl c.cells rfl ?_;intro j af hG rG bG;have a:=ak.go ac.out (bG.mono hG);obtain⟨S1,k,d,D1,l⟩:=Yv (w:=af) S0 (λW=>Row W j 31 c.cells) a (rG);clear a ac hG rG bG;go_wp2_with fail
 refine(Y2 af (ab.out _ (D1.out _ d.out))).mono ?_;rintro e an ⟨rfl,i⟩;have a:=k.go d.out (i);replace d:=Lv a;clear a i;go_wp2_with (refine wpList_load_row rfl 31 _ rfl j rfl 31 c.cells (0,0) _ (l.out _ d.out) Tryz.underlying31 rfl (by kernel_rfl) ?_)
 refine(AaD c an (y.out _ (D1.out _ d.out))).mono ?_;rintro e ag ⟨rfl,i⟩;generalize hq:AbH c=qc;have ai:=Lv hq;clear hq;have a:=k.go d.out (i);replace d:=Lv a;clear a i;cases qc
 ·skip;go_wp2_with fail
  go_ret
  exact⟨rfl,(n.out _ (D1.out _ d.out))⟩
 ·skip;have g:Hid (∀W,S1 W->CpOk W c):=by show ∀W,_;exact λW hW=>((y.out _ (D1.out _ hW))).ok ai.out
  have x:Hid (IntD c.data):=Adf (g.out _ d.out) aj.out;have q:Hid (∀W,CpOk W c->Calls Tryz.prog 16 #[.agg c.cells] W λe w'=>e=.returned (.int .i64 (QQ c))/\Below W.heap.size W w'):=λW h=>Xm c W h
  by_cases hk:QQ c≠0
  ·skip;have He:Hid (Jn c.data=([],QQ c)):=by show _=_;unfold Jn;rw[Jd,if_pos hk]
   generalize QQ c=z at hk He q;go_wp2_with (refine wpList_load_row rfl 31 _ rfl j rfl 31 c.cells (0,0) _ (l.out _ d.out) Tryz.underlying31 rfl (by kernel_rfl) ?_)
   refine(Z1 c ag (g.out _ d.out) x.out).mono ?_;rintro e ao ⟨rfl,i⟩;rw[He.out];dsimp only;have a:=k.go d.out (i);replace d:=Lv a;clear a i;have aw:(z != 0)=true:=by simpa using hk
   go_wp2_with (refine wpList_load_row rfl 31 _ rfl j rfl 31 c.cells (0,0) _ (l.out _ d.out) Tryz.underlying31 rfl (by kernel_rfl) ?_)
   refine(q.out ao (g.out _ d.out)).mono ?_;rintro e ap ⟨rfl,i⟩;have a:=k.go d.out (i);replace d:=Lv a;clear a i;go_wp2_with (refine Zl (by kernel_rfl) 31 _ rfl j rfl 31 c.cells (0,0) _ (l.out _ d.out) Tryz.underlying31 rfl (by kernel_rfl) ?_)
   refine(q.out ap (g.out _ d.out)).mono ?_;rintro e ax ⟨rfl,i⟩;have a:=k.go d.out (i);replace d:=Lv a;clear a i;go_wp2_with fail
   go_ret
   exact⟨rfl,(n.out _ (D1.out _ d.out))⟩
  ·skip;have hk:QQ c=0:=Decidable.not_not.1 hk;rw[hk]at q;obtain⟨s,he,hl⟩:=Acb (by rw[Jd];exact hk) x.out;have He:=Lv he;have Hl:=Lv hl;have Hd:=Lv (EY x.out he);clear he hl hk;go_wp2_with (refine wpList_load_row rfl 31 _ rfl j rfl 31 c.cells (0,0) _ (l.out _ d.out) Tryz.underlying31 rfl (by kernel_rfl) ?_)
   refine(Z1 c ag (g.out _ d.out) x.out).mono ?_;rintro e aq ⟨rfl,i⟩;rw[He.out];dsimp only;have a:=k.go d.out (i);replace d:=Lv a;clear a i;go_wp2_with (refine wpList_load_row rfl 31 _ rfl j rfl 31 c.cells (0,0) _ (l.out _ d.out) Tryz.underlying31 rfl (by kernel_rfl) ?_)
   refine(q.out aq (g.out _ d.out)).mono ?_;rintro e ar ⟨rfl,i⟩;have a:=k.go d.out (i);replace d:=Lv a;clear a i;go_wp2_with fail
   refine(KO s Hl.out ar (ab.out _ (D1.out _ d.out))).mono ?_;rintro e u ⟨c2,t⟩;have ae:=t.e;have Hm:Hid (c2.data=c.data):=by show _=_;rw[t.m,Hd.out]
   rw[Hd.out]at ae;subst ae;have a:=k.go d.out (t.b);obtain⟨S2,al,ad,D2,aa⟩:=Yv (w:=u) S1 (λW=>CpOk W c2) a (t.ok);clear a d t;go_wp2_with (refine Qs _ rfl ?_)
   refine Stop.to ?_;refine Qi rfl 31 rfl _ _ (VK _) rfl ?_;intro p au hG rG bG;go_wp2_with (refine Qk _ _ _ rfl ?_)
   refine Stop.to ?_;refine Qh rfl 31 _ _ rfl p c2.cells rfl rfl 31 _ rG (by kernel_rfl) rfl (by simp[Value.oneCell',CpV.cells]) ?_;intro v rH oH;have bH:Below (u).heap.size u v:=(bG.mono hG).trans (oH.below hG);have a:=al.go ad.out (bH);obtain⟨S3,am,o,D3,ah⟩:=Yv (w:=v) S2 (λW=>Row W p 31 c2.cells) a (rH);clear a ad hG rG bG rH oH bH;go_wp2_with (first| (refine wpList_load_row rfl 31 _ rfl j rfl 31 c.cells (0,0) _ (l.out _ (D2.out _ (D3.out _ o.out))) Tryz.underlying31 rfl (by kernel_rfl) ?_)| (refine wpList_load_row rfl 31 _ rfl p rfl 31 c2.cells (0,0) _ (ah.out _ o.out) Tryz.underlying31 rfl (by kernel_rfl) ?_))
   refine(Ut c c2 v (g.out _ (D2.out _ (D3.out _ o.out))) (aa.out _ (D3.out _ o.out))).mono ?_;rintro e av ⟨rfl,i⟩;rw[show JE c c2=true from sameC_iff.2 Hm.out.symm];have a:=am.go o.out (i);replace o:=Lv a;clear a i;go_wp2_with fail
   go_ret
   exact⟨rfl,(n.out _ (D1.out _ (D2.out _ (D3.out _ o.out))))⟩
end Go.Proofs.YtgnmkiafeplbpaaGreatDoor
