/- Lemmas for RunnerKillsP. -/
import Derived.Test.YtkoikjnlpifbjaaGreatZk1
import Derived.Test.YtkoikjnlpifbjaaGreatZk33
import Derived.Test.YtkoikjnlpifbjaaGreatZk32
set_option linter.unusedVariables false
set_option linter.unusedSimpArgs false
set_option maxRecDepth 100000
set_option maxHeartbeats 16000000
namespace Go.Proofs.YtkoikjnlpifbjaaGreat
open Go.RowKit Go.Deep
def RnV.cz (R:RnV)(n dn lk:Int)(bv mv:Value):Array Value:=#[.int .i64 R.q.params,.slice R.q.va R.q.V.length R.q.vcap,.slice R.q.ba R.q.body.length R.q.bcap,.slice R.tA R.ts.length R.tcap,.int .i64 R.fuel,.slice R.aA R.xs.length R.acap,.int .i64 n,.int .u32 dn,.int .i32 lk,.int .u32 0,bv,mv]
theorem Acg{R:RnV}{n dn lk:Int}{bv mv:Value}{W:World}(h:Row W R.g 88 (R.cz n dn lk bv mv)):∀(j:Nat) (v:Value),R.q.cells.toList[j]? =some v->W.cell? ((⟨R.g,0,none⟩:Addr).add j)=some v:=
 Row.from_ (cur:=R.cz n dn lk bv mv) h 0 (λj v hj=>by
  match j,hj with
  |0,hj=>exact hj
  |1,hj=>exact hj
  |2,hj=>exact hj
  |j+3,hj=>simp[PgV.cells]at hj)
structure KpW (X:Nat->Prop)(A B:World):Prop where
 os:B.os=A.os
 tape:B.tape=A.tape
 output:B.output=A.output
 size:A.heap.size<=B.heap.size
 block:∀k,k<A.heap.size->¬X k->B.heap[k]? =A.heap[k]?
section
variable {X:Nat->Prop} {A B C:World}
theorem KpW.refl:KpW X A A:=⟨rfl,rfl,rfl,Nat.le_refl _,λ_ _ _=>rfl⟩
theorem KpW.trans (h:KpW X A B)(k:KpW X B C):KpW X A C:=⟨k.os.trans h.os,k.tape.trans h.tape,k.output.trans h.output,Ld h.size k.size,λi hi hx=>(k.block i (Lg hi h.size) hx).trans (h.block i hi hx)⟩
theorem KpW.of_below (b:Below A.heap.size A B):KpW X A B:=⟨b.os,b.tape,b.output,b.size,λk hk _=>b.block k hk⟩
theorem KpW.only{g:Nat}(o:Only g A B)(hg:X g):KpW X A B:=⟨o.os,o.tape,o.output,LD o.size.symm,λk _ hx=>o.block k (λe=>hx (e▸hg))⟩
theorem KpW.grown{g:Option Nat}(h:A.grownBy B g)(hg:∀k,g=some k->X k):KpW X A B:=⟨h.os,h.tape,h.output,h.size,λk hk hx=>h.block k hk (λe=>hx (hg k e.symm))⟩
theorem KpW.more{Y:Nat->Prop}(h:KpW X A B)(hs:∀k,X k->Y k):KpW Y A B:=⟨h.os,h.tape,h.output,h.size,λk hk hx=>h.block k hk (λe=>hx (hs k e))⟩
theorem KpW.below{lo:Nat}(h:KpW X A B)(hl:lo<=A.heap.size)(hx:∀k,X k->lo<=k):Below lo A B:=⟨h.os,h.tape,h.output,h.size,λk hk=>h.block k (by omega) (λe=>by have:=hx k e;omega)⟩
theorem KpW.row{i:Nat}{t:TypeId}{cs:Array Value}(h:KpW X A B)(r:Row A i t cs)(hx:¬X i):Row B i t cs:=(h.block i r.lt hx).trans r
end
theorem ZW{W:World}{i g:Nat}{t t':TypeId}{cs cs':Array Value}(r:Row W i t cs)(r':Row W g t' cs')(h:t≠t'):i≠g:=λe=>h (by
 subst e
 have h9:W.heap[i]? =some (.cells cs t (0,0)):=r
 rw[show W.heap[i]? =some (.cells cs' t' (0,0))from r']at h9
 injection h9 with h9;injection h9 with _ h9;exact h9.symm)
theorem KpW.tk{W W':World}{g:Nat}{cs:Array Value}(h:KpW (λi=>i=g) W W')(r:Row W g 88 cs):TKeep W W':=λi t ds q a _=>h.row q (ZW q r a)
theorem KpW.own1{W W':World}{g lo size n:Nat}{cs:Array Value}{v:Value}{xs:List Value}(h:KpW (λi=>i=g) W W')(r:Row W g 88 cs)(o:W.ownsRow lo 54 size v n xs):W'.ownsRow lo 54 size v n xs:=by
 refine⟨o.1,?_⟩;rcases o.2 with e|⟨k,d,c,e,l,j,m⟩
 ·exact .inl e
 ·exact .inr ⟨k,d,c,e,l,h.row (show Row W k 54 c from j) (ZW (show Row W k 54 c from j) r (by decide)),m⟩
theorem E6{w:World}{b size n m c:Nat}{A:Option Addr}{e:TypeId}{xs:List Value}(h:w.ownsRow b e size (.slice A m c) n xs):m=n:=by
 rcases h.2 with⟨d,rfl⟩|⟨g,i,j,d,_⟩
 ·cases d;rfl
 ·cases d;rfl
structure AskR (R:RnV)(n lk:Int)(mv:Value)(W w':World):Prop where
 ex:∃A c,Row w' R.g 88 (R.cz n 0 lk (.slice A (ZU R.q (R.ts.map IntsV.l) R.fuel).length c) mv)/\Rd w' A (XB (ZU R.q (R.ts.map IntsV.l) R.fuel))/\RowB w' 52 A/\KpW (λi=>i=R.g) W w'
theorem Ajt (R:RnV)(n lk:Int)(mv:Value)(W:World)(hr:Row W R.g 88 (R.cz n 0 lk (.slice none 0 0) mv))(hok:R.q.ok W)(ht:Rd W R.tA (Jo R.ts))(hot:∀x∈R.ts,x.ok W)(hbl:R.q.body.length<=1000)(hl:R.ts.length<=1000):
 Calls Tryz.prog 71 #[.pointer (some ⟨R.g,0,none⟩)] W λe w'=>e=.returned (.tuple #[])/\AskR R n lk mv W w':=by
 obtain⟨S,s⟩:∃S:World->Prop,S=(λV=>∃o,Row V R.g 88 (R.cz n 0 lk o mv)):=⟨_,rfl⟩;have S0:Hid (∀V,S V->∃o,Row V R.g 88 (R.cz n 0 lk o mv)):=by show ∀V,_;rw[s];exact λV h=>h
 have SI:Hid (∀V o,Row V R.g 88 (R.cz n 0 lk o mv)->S V):=by show ∀V o,_;rw[s];exact λV o h=>⟨o,h⟩
 have Hr:=Lh hr;have ac:=Lh hok;have Ht:=Lh ht;have ad:=Lh hot;have ab:=Lh hbl;have Hl:=Lh hl;clear s hr hok ht hot hbl hl;go_enter Tryz.func71,Tryz.ntmps71
 go_wp2_with fail
 obtain⟨V0,t⟩:∃V,V=W.drew:=⟨_,rfl⟩;have w:Below W.heap.size W V0:=by rw[t];exact St.drew (S:=λV=>Below W.heap.size W V) (Below.refl _ _)
 have r0:=Hr.out.below w Hr.out.lt;have hS:=SI.out _ _ r0;refine wp_region_held (S:=S) (by kernel_rfl) ?_;simp only[Lk,Lc,Lo,Nat.reduceAdd,Li,Lj,Lp,Lm,Ll];show wpAnyH _ _ _ _ _ _ _ _ W.drew;rw[<-t];clear t;(refine tkH 0 (.pointer (some ⟨R.g,0,none⟩)) rfl (Qd rfl (λW d=>by(go_simp))) ?_;simp only[Act.put,Qa,Qb,Qc]);(refine tkH 1 (.pointer (some ⟨R.g,0,none⟩)) rfl (Qd rfl (λW d=>by(go_simp))) ?_;simp only[Act.put,Qa,Qb,Qc]);(refine tkH 2 (.pointer (some ⟨R.g,0,none⟩)) rfl (Qd rfl (λW d=>by(go_simp))) ?_;simp only[Act.put,Qa,Qb,Qc]);(refine tkH 3 (.pointer (some ⟨R.g,0,none⟩)) rfl (Qd rfl (λW d=>by(go_simp))) ?_;simp only[Act.put,Qa,Qb,Qc]);(refine tkH 4 (.pointer (some ⟨R.g,0,none⟩)) rfl (Qd rfl (λW d=>by(go_simp))) ?_;simp only[Act.put,Qa,Qb,Qc]);(refine tkH 5 _ rfl (JI rfl 25 _ rfl ⟨R.g,0,none⟩ rfl R.q.cells.toList _ (λV hV=>Acg (S0.out V hV).choose_spec) Tryz.underlying25 rfl (by kernel_rfl)) ?_;simp only[Act.put,Qa,Qb,Qc]);(refine tkH 6 (.pointer (some ⟨R.g,0,none⟩)) rfl (Qd rfl (λW d=>by(go_simp))) ?_;simp only[Act.put,Qa,Qb,Qc]);(refine tkH 7 (.pointer (some ⟨R.g,0,none⟩)) rfl (Qd rfl (λW d=>by(go_simp))) ?_;simp only[Act.put,Qa,Qb,Qc]);(refine tkH 8 (.pointer (some ⟨R.g,0,none⟩)) rfl (Qd rfl (λW d=>by(go_simp))) ?_;simp only[Act.put,Qa,Qb,Qc]);(refine tkH 9 (.pointer (some ⟨R.g,3,none⟩)) rfl (Qd rfl (λW d=>by(go_simp))) ?_;simp only[Act.put,Qa,Qb,Qc]);(refine tkH 10 (.slice R.tA R.ts.length R.tcap) rfl (Qd rfl (λW d=>by((have c:=(S0.out W d).choose_spec.cellv (i:=3) (v:=.slice R.tA R.ts.length R.tcap) rfl;go_simp)))) ?_;simp only[Act.put,Qa,Qb,Qc]);(refine tkH 11 (.pointer (some ⟨R.g,0,none⟩)) rfl (Qd rfl (λW d=>by(go_simp))) ?_;simp only[Act.put,Qa,Qb,Qc]);(refine tkH 12 (.pointer (some ⟨R.g,0,none⟩)) rfl (Qd rfl (λW d=>by(go_simp))) ?_;simp only[Act.put,Qa,Qb,Qc]);(refine tkH 13 (.pointer (some ⟨R.g,0,none⟩)) rfl (Qd rfl (λW d=>by(go_simp))) ?_;simp only[Act.put,Qa,Qb,Qc]);(refine tkH 14 (.pointer (some ⟨R.g,4,none⟩)) rfl (Qd rfl (λW d=>by(go_simp))) ?_;simp only[Act.put,Qa,Qb,Qc]);(refine tkH 15 (.int .i64 R.fuel) rfl (Qd rfl (λW d=>by((have c:=(S0.out W d).choose_spec.cellv (i:=4) (v:=.int .i64 R.fuel) rfl;go_simp)))) ?_;simp only[Act.put,Qa,Qb,Qc]);(refine wpAnyH_all (rs:=[16]) (by kernel_rfl) (by simp) (λi hi=>?_);obtain rfl:i=16:=by simpa using hi);refine Qf rfl rfl (λK2 k=>?_);refine Qo 50 #[.agg R.q.cells,.slice R.tA R.ts.length R.tcap,.int .i64 R.fuel] (w1:=V0) (by go_simp) ((AhG R.q R.tA R.tcap R.ts R.fuel V0 (ac.out.go w) ab.out (Ht.out.go w) (λx hx=>(ad.out x hx).go w) Hl.out).mono ?_);rintro e V1 ⟨v,rfl,j,bb⟩;refine⟨_,rfl,?_⟩;refine k _ _ ?_;clear k K2;simp only[Act.put,Qa,Qb,Qc];obtain⟨A,m,c,rfl⟩:=ZC j;obtain rfl:m=(ZU R.q (R.ts.map IntsV.l) R.fuel).length:=E6 j;have r1:=r0.below bb r0.lt;have z:=XC j;have p:=Xl j;have kp:=(KpW.of_below (X:=λi=>i=R.g) w).trans (KpW.of_below (bb));have aa:=SI.out _ _ r1;refine⟨aa,?_⟩;clear hS w r0 bb j;(refine tkH 17 (.tuple #[.slice A (ZU R.q (R.ts.map IntsV.l) R.fuel).length c,.int .i64 (Zo R.q (R.ts.map IntsV.l) R.fuel)]) rfl (Qd rfl (λW d=>by(go_simp))) ?_;simp only[Act.put,Qa,Qb,Qc]);(refine tkH 18 (.slice A (ZU R.q (R.ts.map IntsV.l) R.fuel).length c) rfl (Qd rfl (λW d=>by(go_simp))) ?_;simp only[Act.put,Qa,Qb,Qc]);(refine tkH 19 (.int .i64 (Zo R.q (R.ts.map IntsV.l) R.fuel)) rfl (Qd rfl (λW d=>by(go_simp))) ?_;simp only[Act.put,Qa,Qb,Qc]);(refine tkH 20 (.pointer (some ⟨R.g,0,none⟩)) rfl (Qd rfl (λW d=>by(go_simp))) ?_;simp only[Act.put,Qa,Qb,Qc]);(refine tkH 21 (.pointer (some ⟨R.g,10,none⟩)) rfl (Qd rfl (λW d=>by(go_simp))) ?_;simp only[Act.put,Qa,Qb,Qc]);(refine wpAnyH_all (rs:=[22]) (by kernel_rfl) (by simp) (λi hi=>?_);obtain rfl:i=22:=by simpa using hi);refine Qf rfl rfl (λK2 k=>?_);refine ZX 86 (.tmp 23) (.tmp 20) rfl R.g 10 rfl _ rfl [.slice A (ZU R.q (R.ts.map IntsV.l) R.fuel).length c] rfl 88 _ (R.cz n 0 lk (.slice A (ZU R.q (R.ts.map IntsV.l) R.fuel).length c) mv) r1 (by kernel_rfl) (by show 10+1<=12;omega) (by simp[Value.oneCell']) rfl ?_;intro V2 r2 o2;refine k _ _ ?_;clear k K2;simp only[Act.put,Qa,Qb,Qc];have u:Row V2 R.g 88 (R.cz n 0 lk (.slice A (ZU R.q (R.ts.map IntsV.l) R.fuel).length c) mv):=r2
 have HF:Hid (AskR R n lk mv W V2):=⟨⟨A,c,u,Q3 z p (λi cs r=>r.only o2 (λe=>by
  subst e;have y:V1.heap[R.g]? =_:=r;rw[show V1.heap[R.g]? =_ from r1]at y;injection y with y;injection y with _ y;cases y)),p.only o2 r1 (by decide),kp.trans (KpW.only o2 rfl)⟩⟩
 refine⟨SI.out _ _ u,?_⟩;refine wpAnyH_done (by kernel_rfl) ?_ _;clear r1 z p kp r2 o2 u S0 SI aa;go_wp2_with fail
 go_end0
 exact⟨rfl,HF.out⟩
def RnV.ask (R:RnV)(bv:Value):RnV:={ R with on:=true,bv:=bv }
structure OnceR (lo:Nat)(R:RnV)(W w':World):Prop where
 ex:∃bv,RnIn lo (R.ask bv) w'/\KpW (λi=>i=R.g) W w'
theorem Afq{lo:Nat}(R:RnV)(W:World)(h:RnIn lo R W)(hbl:R.q.body.length<=1000)(hl:R.ts.length<=1000):
 Calls Tryz.prog 70 #[.pointer (some ⟨R.g,7,none⟩),.func (.func 71) #[.pointer (some ⟨R.g,0,none⟩)] #[]] W λe w'=>e=.returned (.tuple #[])/\OnceR lo R W w':=by
 obtain⟨g,q,tA,o,ts,d,aA,m,y,n,on,bv,p,x⟩:=R;cases on with
 |true=>
  refine(AgE _ g 7 W (h.row.cellv (i:=7) (v:=.int .u32 1) rfl)).mono λe w' ⟨e1,e2⟩=>⟨e1,?_⟩;subst e2;exact⟨bv,h,KpW.refl⟩
 |false=>
  have hb:bv=.slice none 0 0:=h.rd.bas;subst hb;have s:=h.row;have o1:=Zl W g 8 (.int .i32 1);have r1:Row (W.setCell ⟨g,8,none⟩ (.int .i32 1)) g 88 ((RnV.mk g q tA o ts d aA m y n false (.slice none 0 0) p x).cz (n:Int) 0 1 (.slice none 0 0) p):=s.set 8 (.int .i32 1);have t:=h.rd.keep (TKeep.only o1 s);have ha:=Ajt (RnV.mk g q tA o ts d aA m y n false (.slice none 0 0) p x) (n:Int) 1 p _ r1 t.pok t.trd t.tok hbl hl
  refine(AjJ 71 g 7 88 _ (λds j=>∃A c,ds=(RnV.mk g q tA o ts d aA m y n false (.slice none 0 0) p x).cz (n:Int) 0 1 (.slice A (ZU q (ts.map IntsV.l) d).length c) p/\Rd j A (XB (ZU q (ts.map IntsV.l) d))/\RowB j 52 A/\KpW (λi=>i=g) (W.setCell ⟨g,8,none⟩ (.int .i32 1)) j) W s rfl rfl (λ_ _=>by kernel_rfl)
   (ha.mono λe j ⟨e1,A,c,h1,h2,h3,h4⟩=>⟨e1,_,h1,rfl,rfl,A,c,rfl,h2,h3,h4⟩)).mono λe w' ⟨e1,ds,j,h1,⟨A,c,h2,h3,h4,h5⟩,h6⟩=>⟨e1,?_⟩
  subst h2 h6;have z:Below j.heap.size j j.drew:=St.drew (S:=λV=>Below j.heap.size j V) (Below.refl _ _);have r2:=h1.below z h1.lt;have o2:=Zl j.drew g 7 (.int .u32 1);have r3:=r2.set 7 (.int .u32 1);have o3:=Zl (j.drew.setCell ⟨g,7,none⟩ (.int .u32 1)) g 8 (.int .i32 0);have r4:=r3.set 8 (.int .i32 0);have k2:KpW (λi=>i=g) j ((j.drew.setCell ⟨g,7,none⟩ (.int .u32 1)).setCell ⟨g,8,none⟩ (.int .i32 0)):=((KpW.of_below (X:=λi=>i=g) z).trans (KpW.only (X:=λi=>i=g) o2 rfl)).trans (KpW.only (X:=λi=>i=g) o3 rfl);have w:KpW (λi=>i=g) W ((j.drew.setCell ⟨g,7,none⟩ (.int .u32 1)).setCell ⟨g,8,none⟩ (.int .i32 0)):=((KpW.only (X:=λi=>i=g) o1 rfl).trans h5).trans k2;have k:=h.rd.keep (w.tk s);have t2:=k2.tk h1;refine⟨.slice A (ZU q (ts.map IntsV.l) d).length c,⟨r4,h.glo,⟨k.pok,k.va,k.ba,k.trd,k.tA,k.tok,k.tb,k.ard,k.aA,k.aok,?_,k.mok⟩,w.own1 s h.own⟩,w⟩;exact⟨A,c,rfl,Q3 h3 h4 (λi u r=>t2 i _ u r (by decide) (by decide)),QP h4 (λi u r=>t2 i _ u r (by decide) (by decide))⟩
structure RunT (s:Ms)(w w':World)(e:Ending):Prop where
 ex:∃A cap,e=.returned (.tuple #[.agg (s.rv A cap).cells,.int .i64 0])/\(Rd w' A (s.evs.flatMap EvV.cells)/\RowB w' 263 A)/\s.evs.length<=cap/\cap<=maxLen/\(A=none->cap=0)/\Below w.heap.size w w'
theorem AkJ (p:PgV)(aa:Option Addr)(acap:Nat)(args:List Int)(fuel:Int)(w:World)(hbl:p.body.length<=1000)(hn:args.length<=1000)(hok:p.ok w)(hra:Rd w aa (Qi args))(hin:∀a∈args,InI a)(hc:Q7 p args.length fuel=0):
 Calls Tryz.prog 72 #[.agg p.cells,.slice aa args.length acap,.int .i64 fuel] w λe w'=>RunT (QG p args fuel) w w' e:=by
 obtain⟨t,v,n,k⟩:=Y2 hok hin hc;obtain⟨fin,g,i,j⟩:=k.fin;refine(AdH p t aa acap args fuel fin w hbl hn hok hra k.good hc g i).mono λe w' h=>?_
 rw[k.eq, <-j];obtain⟨ev,rfl,c,m⟩:=h.ex;obtain⟨A,d,rfl,g,i,j,l⟩:=Afi c;exact⟨A,d,rfl,⟨g,Xl c⟩,i,j,l,m⟩
theorem Ad1{p:PgV}{W W':World}{g:Nat}(h:p.ok W)(o:Only g W W')(h1:Qi p.V≠[]->∀a,p.va=some a->a.block≠g)(h2:p.body.flatMap Nd.cells≠[]->∀a,p.ba=some a->a.block≠g):p.ok W':=
 ⟨h.par,h.vlen,h.vmax,h.vnil,h.vrd.only o h1,h.vin,h.blen,h.bmax,h.bnil,h.brd.only o h2,h.bin⟩
theorem DlT.tk{x:DlV}{W W':World}(h:DlT W x)(k:TKeep W W'):DlT W' x:=
 ⟨⟨Q3 h.ok.1 h.ib (λi cs r=>k i _ cs r (by decide) (by decide)),h.ok.2⟩,QP h.ib (λi cs r=>k i _ cs r (by decide) (by decide)),h.nil⟩
theorem RnIn.onlyM{lo:Nat}{R:RnV}{W W':World}{K:Nat}{cs:Array Value}(h:RnIn lo R W)(o:Only K W W')(r:Row W K 54 cs)(hne:R.mv.ownBlock≠some K):RnIn lo R W':=
 ⟨h.row.only o (ZW h.row r (by decide)),h.glo,h.rd.keep (λi t ds q _ b=>q.only o (ZW q r b)),Qx h.own o hne⟩
theorem Ks{p:PgV}{d:Dl}{fuel:Int}{ts:List (List Int)}(h:Kt p d ts fuel=0):QX p=0/\Z3 p.params ts fuel=0/\mutC p d=0:=by
 have e:Zo p ts fuel=0:=by
  unfold Kt at h;split at h
  ·rename_i c;exact absurd h c
  ·rename_i c;simpa using c
 have g:mutC p d=0:=by unfold Kt at h;rwa[if_neg (by rw[e];simp)]at h
 unfold Zo at e;split at e
 ·rename_i c;exact absurd e c
 ·rename_i c;exact⟨by simpa using c,e,g⟩
theorem Af6{p m:PgV}{d:Dl}{fuel:Int}{ts:List (List Int)}{a:List Int}(hc:Kt p d ts fuel=0)(ha:a∈ts)(hm:IsMut p d m):Q7 m a.length fuel=0:=by
 obtain⟨i,c,e⟩:=Ks hc;obtain⟨j,k,h,l,n⟩:=X0 c;obtain⟨t,g⟩:=Aiu hm e;rw[JU g,hm.par,if_neg (by rw[h a ha];simp),if_neg (by omega)]
end Go.Proofs.YtkoikjnlpifbjaaGreat
