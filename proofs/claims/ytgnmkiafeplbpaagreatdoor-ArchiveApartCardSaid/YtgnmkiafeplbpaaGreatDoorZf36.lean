/- Lemmas for ArAll. -/
import Derived.Test.YtgnmkiafeplbpaaGreatDoorZf1
import Derived.Test.YtgnmkiafeplbpaaGreatDoorZf33
import Derived.Test.YtgnmkiafeplbpaaGreatDoorZf35
import Derived.Test.YtgnmkiafeplbpaaGreatDoorZf7
import Derived.Test.YtgnmkiafeplbpaaGreatDoorZf29
set_option linter.unusedVariables false
set_option linter.unusedSimpArgs false
set_option maxRecDepth 100000
set_option maxHeartbeats 16000000
namespace Go.Proofs.YtgnmkiafeplbpaaGreatDoor
open Go.RowKit Go.Deep
attribute [local go_sem] Oper.semAt_some
theorem Abw (s:List UInt8)(w:World):
 Calls Tryz.prog 141 #[.string ⟨s.toArray⟩] w λe w'=>∃g,e=.returned (.pointer (some ⟨g,0,none⟩))/\RdO w' g s ⟨0,0⟩/\Below w.heap.size w w'/\w.heap.size<=g:=
 (Abv s w).mono λ_ _ h=>⟨_,h.1,h.2.1,h.2.2,Nat.le_refl _⟩
section
variable {P:Program} {o:Oper} {a:Act} {w:World} {K:Act->World->Prop} {Q:Exit->Act->World->Prop}
theorem UP (ty:TypeId)(x:Operand)(ho:o.op=.box ty x)(cs:Array Value)(hx:(a.eval x).cells=cs)
 (h:∀g w',w.heap.size<=g->Row w' g ty cs->Below g w w'->K (a.put o.dst (.pointer (some ⟨g,0,none⟩))) w'):o.wp P a w K Q:=by
 have e:(execOp a.eval o).run P w=.ok (.value (.pointer (some ⟨w.heap.size,0,none⟩))) (w.alloc (.cells cs ty)):=by
  rw[<-hx];simp[execOp,ho,Instr.box,newVar,newRow]
 unfold Oper.wp;rw[e];exact h _ _ (Nat.le_refl _) (Row.new _ _ _) ((Below.refl _ _).alloc (Nat.le_refl _) _)
end
theorem Ep (w:World):(zeroValue 188).run Tryz.prog w=.ok (.pointer none) w:=by kernel_rfl
structure GetB (w W:World)(R C K g:Nat)(u:List UInt8)(x:CutS):Prop where
 cut:CutO W C K g u x
 res:Row W R 48 (QO ⟨0,[]⟩)
 below:Below w.heap.size w W
 lo:w.heap.size<=C/\w.heap.size<=K/\w.heap.size<=g/\w.heap.size<=R
theorem GetB.go{w W W':World}{R C K g:Nat}{u:List UInt8}{x:CutS}(h:GetB w W R C K g u x)(b:Below W.heap.size W W'):GetB w W' R C K g u x:=
 ⟨h.cut.go b,h.res.below b h.res.lt,h.below.trans (b.mono h.below.size),h.lo⟩
def Ey (C N:Nat):Array Value:=#[.func (.func 142) #[] #[.pointer (some ⟨C,0,none⟩)],.func (.func 145) #[] #[.pointer (some ⟨C,0,none⟩),.pointer (some ⟨N,0,none⟩)],.func (.func 149) #[] #[.pointer (some ⟨C,0,none⟩),.pointer (some ⟨N,0,none⟩)],.func (.func 151) #[] #[.pointer (some ⟨C,0,none⟩)]]
inductive GetP (w W:World)(R C K g N:Nat)(u:List UInt8):Nat->Prop
 |s0 (h:GetB w W R C K g u gx0) (n:Row W N 3 #[.int .i64 0]):GetP w W R C K g N u 0
 |s1 (h:GetB w W R C K g u (gx1 u)) (n:Row W N 3 #[.int .i64 0]) (h1:ge1 u=0):GetP w W R C K g N u 1
 |s2 (h:GetB w W R C K g u (gx2 u)) (n:Row W N 3 #[.int .i64 (gn2 u)]) (h1:ge1 u=0) (h2:ge2 u=0):GetP w W R C K g N u 2
 |s3 (h:GetB w W R C K g u (gx3 u)) (h1:ge1 u=0) (h2:ge2 u=0) (h3:ge3 u=0):GetP w W R C K g N u 3
 |s4 (h:GetB w W R C K g u (gx3 u)) (h1:ge1 u=0) (h2:ge2 u=0) (h3:ge3 u=0) (h4:ge4 u=0):GetP w W R C K g N u 4
theorem GetB.step{w W W':World}{R C K g:Nat}{u:List UInt8}{x y:CutS}(h:GetB w W R C K g u x)(c:CutO W' C K g u y)(e:CutE w.heap.size W W'):GetB w W' R C K g u y:=
 ⟨c,e.row _ _ _ h.res (by decide) (by decide) (by decide),h.below.trans e.below,h.lo⟩
theorem ZI{P:Program}{fn:Func}{p t1 t2:Tmp}{ty:TypeId}(h:fn.results=#[.cell p ty,.tmp t1,.tmp t2])(tmps:Array Value)(w:World)(g:Nat)(t:TypeId)(cs:Array Value)(fr:Nat×Nat)(d:TypeDesc)
 (hp:tmps.getD p undef=.pointer (some ⟨g,0,none⟩)) (hg:w.heap[g]? =some (.cells cs t fr))
 (hu:P.underlying ty=some d) (hd:(match d with| .struct _| .array _ _=>true|_=>false)=true) (hi:(P.info? ty).map (·.size)=some cs.size):
 (results fn tmps).run P w=.ok (.tuple #[.agg cs,tmps.getD t1 undef,tmps.getD t2 undef]) w:=by
 have a:tmps[p]?.getD undef=.pointer (some ⟨g,0,none⟩):=by simpa using hp
 simp[results,h,a,asAddr,run_loadVar_row w g t ty cs fr d hg hu hd hi]
theorem Ak3{W:World}{K g:Nat}{u:List UInt8}{x:CutS}(h:Row W K 192 (EQ g u x)):∀(j:Nat) (v:Value),(QO ⟨x.t,x.d⟩).toList[j]? =some v->W.cell? ((⟨K,2,none⟩:Addr).add j)=some v:=
 Row.from_ (cur:=EQ g u x) h 2 (λj v hj=>by
  match j with
  |0=>exact hj
  |1=>exact hj
  |j+2=>simp[QO]at hj)
theorem AaL{w W:World}{R C K g:Nat}{u:List UInt8}(rC:Row W C 188 #[.pointer none])(rK:Row W K 192 (EQ g u gx0))(hr:RdO W g u ⟨0,0⟩)(hR:Row W R 48 (QO ⟨0,[]⟩))(b:Below w.heap.size w W)(lo:w.heap.size<=C/\w.heap.size<=K/\w.heap.size<=g/\w.heap.size<=R):GetB w (W.setCell ⟨C,0,none⟩ (.pointer (some ⟨K,0,none⟩))) R C K g u gx0:=by
 have o:=Qu W C 0 (.pointer (some ⟨K,0,none⟩));exact⟨⟨rC.set 0 _,rK.only o (Q5 rK rC (by decide)),hr.only o (Q5 hr rC (by decide))⟩,hR.only o (Q5 hR rC (by decide)),Ql b o lo.1,lo⟩
theorem Acj (s:List UInt8)(at_:Nat)(hs:s.length<=900000)(ha:at_<=s.length)(w:World):
 Calls Tryz.prog 75 #[.string ⟨s.toArray⟩,.int .i64 (at_:Int)] w λe w'=>(if ge1 (s.drop at_)=0/\ge2 (s.drop at_)=0/\ge3 (s.drop at_)=0/\ge4 (s.drop at_)=0 then e=.returned (.tuple #[.agg (QO ⟨(gx3 (s.drop at_)).t,(gx3 (s.drop at_)).d⟩),.int .i64 ((at_+(gx3 (s.drop at_)).r.pl:Nat):Int),.int .i64 0])else ∃er:Int,er≠0/\e=.returned (.tuple #[.agg (QO ⟨0,[]⟩),.int .i64 (at_:Int),.int .i64 er]))/\Below w.heap.size w w':=by
 have az:(⟨s.toArray⟩:ByteArray).size=s.length:=by simp[ByteArray.size]
 have hx:(⟨s.toArray⟩:ByteArray).extract at_ s.length=⟨(s.drop at_).toArray⟩:=by rw[KV,Lm (by simp)]
 have ay:(s.length:Int)<=900000:=by omega
 have au:(0:Int)<=(at_:Int):=by omega
 have av:(at_:Int)<=(s.length:Int):=by omega
 have aw:∀(fn:Fn) (first cap:Array Value) (w:World),(Instr.makeFunc fn first cap).run Tryz.prog w=.ok (.func fn first cap) w:=λ_ _ _ _=>rfl
 obtain⟨u,hu⟩:∃u,u=s.drop at_:=⟨_,rfl⟩;have ah:u.length<=900000:=by rw[hu,LN];omega
 rw[<-hu]at hx|-;clear hu;go_enter Tryz.func75,Tryz.ntmps75
 go_wp2_with (refine Qs _ rfl ?_)
 refine Stop.to ?_;refine Qi rfl 48 rfl _ _ (Ya _) rfl ?_;intro R w1 hR rR bR;have af:=bR.mono hR;clear bR;go_wp2_with fail
 obtain⟨Vd,aa⟩:∃Vd,Vd=w1.drew:=⟨_,rfl⟩;have bd:Below w1.heap.size w1 Vd:=by rw[aa];exact St.drew (S:=λW=>Below w1.heap.size w1 W) (Below.refl _ _)
 have hS:=rR.below bd rR.lt;have ab:=af.trans (bd.mono af.size);refine wp_mono (Q:=λe a' W=>match e with| .normal=>∃C K g,a'={ tmps:=#[.string ⟨s.toArray⟩,.int .i64 (at_:Int),undef,undef,.pointer (some ⟨R,0,none⟩),.int .i64 0,.int .i64 0,.pointer (some ⟨C,0,none⟩),undef,undef,undef,undef,.int .i64 (at_:Int),.bool (decide ((at_:Int)<0)),.bool (decide ((at_:Int)<0)),.int .i64 (at_:Int),.string ⟨s.toArray⟩,.int .i64 (s.length:Int),.bool false,.bool (decide ((at_:Int)<0)),undef,undef,.string ⟨s.toArray⟩,.int .i64 (at_:Int),.string ⟨u.toArray⟩,.pointer (some ⟨g,0,none⟩),.string ⟨s.toArray⟩,.int .i64 (at_:Int),.string ⟨u.toArray⟩,.agg (EQ g u gx0),.pointer (some ⟨K,0,none⟩),undef,undef,undef,undef,undef,undef,undef,undef,undef,undef,undef,undef,undef,undef,undef,undef,undef,undef,undef,undef,undef,undef,undef,undef,undef,undef,undef,undef,undef,undef,undef],defers:=[] }/\GetB w W R C K g u gx0|_=>False) ?_ (λe a' W h=>?_)
 ·refine J2 (last:=10) (S:=λW=>True) (by kernel_rfl) ?_;simp only[Ly,Le,Ll,Nat.reduceAdd,Ln,Lp,Lz,Lu,Lk];rw[<-aa];clear aa rR af bd;have ar:True:=trivial;(refine Zr (i:=0) (v:=.string ⟨s.toArray⟩) rfl (by kernel_rfl) (by kernel_rfl) (by kernel_rfl) (by kernel_rfl) (λ_ _ _ h=>h) (QB (Qd rfl (λW x=>by(go_simp)))) (by assumption) ?_;simp only[Act.put,Qa,Qb,Qc]);(refine Zr (i:=1) (v:=.int .i64 (at_:Int)) rfl (by kernel_rfl) (by kernel_rfl) (by kernel_rfl) (by kernel_rfl) (λ_ _ _ h=>h) (QB (Qd rfl (λW x=>by(go_simp)))) (by assumption) ?_;simp only[Act.put,Qa,Qb,Qc]);(refine Zr (i:=2) (v:=.string ⟨u.toArray⟩) rfl (by kernel_rfl) (by kernel_rfl) (by kernel_rfl) (by kernel_rfl) (λ_ _ _ h=>h) (QB (Qd rfl (λW x=>by(go_simp)))) (by assumption) ?_;simp only[Act.put,Qa,Qb,Qc]);(refine Zr (i:=4) (v:=.string ⟨s.toArray⟩) rfl (by kernel_rfl) (by kernel_rfl) (by kernel_rfl) (by kernel_rfl) (λ_ _ _ h=>h) (QB (Qd rfl (λW x=>by(go_simp)))) (by assumption) ?_;simp only[Act.put,Qa,Qb,Qc]);(refine Zr (i:=5) (v:=.int .i64 (at_:Int)) rfl (by kernel_rfl) (by kernel_rfl) (by kernel_rfl) (by kernel_rfl) (λ_ _ _ h=>h) (QB (Qd rfl (λW x=>by(go_simp)))) (by assumption) ?_;simp only[Act.put,Qa,Qb,Qc]);(refine Zr (i:=6) (v:=.string ⟨u.toArray⟩) rfl (by kernel_rfl) (by kernel_rfl) (by kernel_rfl) (by kernel_rfl) (λ_ _ _ h=>h) (QB (Qd rfl (λW x=>by(go_simp)))) (by assumption) ?_;simp only[Act.put,Qa,Qb,Qc]);refine Qp (rs:=[3,9]) (by kernel_rfl) (by simp) (λi hi=>?_);rcases (by simpa using hi:i=3\/i=9)with rfl|rfl
  ·refine Qg rfl rfl (λq a=>?_);refine Qm 141 #[.string ⟨u.toArray⟩] (w1:=Vd) (by go_simp) ((Abw u Vd).mono ?_);rintro e W1 ⟨g,rfl,ag,b1,hg⟩;refine⟨_,rfl,?_⟩;refine a _ _ ?_;clear a q;simp only[Act.put,Qa,Qb,Qc];refine⟨λ_=>trivial,?_⟩;have ac:=hS.below b1 hS.lt;have o:=ab.trans (b1.mono ab.size);(refine Zr (i:=7) (v:=.agg (EQ g u gx0)) rfl (by kernel_rfl) (by kernel_rfl) (by kernel_rfl) (by kernel_rfl) (λ_ _ _ h=>h) (QB (Qd rfl (λW x=>by((go_simp;try rfl))))) (by assumption) ?_;simp only[Act.put,Qa,Qb,Qc])
   refine Qp (rs:=[8,9]) (by kernel_rfl) (by simp) (λi hi=>?_);rcases (by simpa using hi:i=8\/i=9)with rfl|rfl
   ·refine Qg rfl rfl (λq a=>?_);refine UP 192 _ rfl (EQ g u gx0) rfl ?_;intro K W2 hK rK bK;refine a _ _ ?_;clear a q;simp only[Act.put,Qa,Qb,Qc];refine⟨λ_=>trivial,?_⟩;(refine Qp (rs:=[9]) (by kernel_rfl) (by simp) (λi hi=>?_);obtain rfl:i=9:=by simpa using hi);refine Qg rfl rfl (λq a=>?_);refine ZL 188 rfl _ #[.pointer none] (Ep _) rfl ?_;intro C W3 hC rC bC;refine a _ _ ?_;clear a q;simp only[Act.put,Qa,Qb,Qc];refine⟨λ_=>trivial,?_⟩;(refine Qp (rs:=[10]) (by kernel_rfl) (by simp) (λi hi=>?_);obtain rfl:i=10:=by simpa using hi);refine Qg rfl rfl (λq a=>?_);unfold Oper.wp;have c1:=rC.cellv (i:=0) (v:=.pointer none) rfl;have f1:=rC.free 0;go_simp
    refine a _ _ ?_;clear a q c1 f1;simp only[Qa,Qb,Qc];refine⟨λh=>absurd rfl h,?_⟩;refine Zv (by kernel_rfl) ?_ _;have bb:=(bK.mono hK).trans (bC.mono (Lj (bK.mono hK).size hC));exact⟨C,K,g,rfl,AaL rC (rK.below (bC.mono hC) rK.lt) (ag.go bb) (ac.below bb ac.lt) (o.trans (bb.mono o.size)) ⟨by have:=bK.size;have:=o.size;omega,by have:=o.size;omega,by have:=ab.size;omega,hR⟩⟩
   ·refine Qg rfl rfl (λq a=>?_);refine ZL 188 rfl _ #[.pointer none] (Ep _) rfl ?_;intro C W2 hC rC bC;refine a _ _ ?_;clear a q;simp only[Act.put,Qa,Qb,Qc];refine⟨λ_=>trivial,?_⟩;(refine Qp (rs:=[8]) (by kernel_rfl) (by simp) (λi hi=>?_);obtain rfl:i=8:=by simpa using hi);refine Qg rfl rfl (λq a=>?_);refine UP 192 _ rfl (EQ g u gx0) rfl ?_;intro K W3 hK rK bK;refine a _ _ ?_;clear a q;simp only[Act.put,Qa,Qb,Qc];refine⟨λ_=>trivial,?_⟩;replace rC:=rC.below (bK.mono hK) rC.lt;(refine Qp (rs:=[10]) (by kernel_rfl) (by simp) (λi hi=>?_);obtain rfl:i=10:=by simpa using hi);refine Qg rfl rfl (λq a=>?_);unfold Oper.wp;have c1:=rC.cellv (i:=0) (v:=.pointer none) rfl;have f1:=rC.free 0;go_simp
    refine a _ _ ?_;clear a q c1 f1;simp only[Qa,Qb,Qc];refine⟨λh=>absurd rfl h,?_⟩;refine Zv (by kernel_rfl) ?_ _;have bb:=(bC.mono hC).trans (bK.mono (Lj (bC.mono hC).size hK));exact⟨C,K,g,rfl,AaL rC rK (ag.go bb) (ac.below bb ac.lt) (o.trans (bb.mono o.size)) ⟨by have:=o.size;omega,by have:=bC.size;have:=o.size;omega,by have:=ab.size;omega,hR⟩⟩
  ·refine Qg rfl rfl (λq a=>?_);refine ZL 188 rfl _ #[.pointer none] (Ep _) rfl ?_;intro C W1 hC rC bC;refine a _ _ ?_;clear a q;simp only[Act.put,Qa,Qb,Qc];refine⟨λ_=>trivial,?_⟩;have ac:=hS.below (bC.mono hC) hS.lt;have o:=ab.trans ((bC.mono hC).mono ab.size);(refine Qp (rs:=[3]) (by kernel_rfl) (by simp) (λi hi=>?_);obtain rfl:i=3:=by simpa using hi);refine Qg rfl rfl (λq a=>?_);refine Qm 141 #[.string ⟨u.toArray⟩] (w1:=W1) (by go_simp) ((Abw u W1).mono ?_);rintro e W2 ⟨g,rfl,ag,b1,hg⟩;refine⟨_,rfl,?_⟩;refine a _ _ ?_;clear a q;simp only[Act.put,Qa,Qb,Qc];refine⟨λ_=>trivial,?_⟩;(refine Zr (i:=7) (v:=.agg (EQ g u gx0)) rfl (by kernel_rfl) (by kernel_rfl) (by kernel_rfl) (by kernel_rfl) (λ_ _ _ h=>h) (QB (Qd rfl (λW x=>by((go_simp;try rfl))))) (by assumption) ?_;simp only[Act.put,Qa,Qb,Qc])
   (refine Qp (rs:=[8]) (by kernel_rfl) (by simp) (λi hi=>?_);obtain rfl:i=8:=by simpa using hi);refine Qg rfl rfl (λq a=>?_);refine UP 192 _ rfl (EQ g u gx0) rfl ?_;intro K W3 hK rK bK;refine a _ _ ?_;clear a q;simp only[Act.put,Qa,Qb,Qc];refine⟨λ_=>trivial,?_⟩;have bb:=b1.trans (bK.mono (Lj b1.size hK));replace rC:=rC.below bb rC.lt;(refine Qp (rs:=[10]) (by kernel_rfl) (by simp) (λi hi=>?_);obtain rfl:i=10:=by simpa using hi);refine Qg rfl rfl (λq a=>?_);unfold Oper.wp;have c1:=rC.cellv (i:=0) (v:=.pointer none) rfl;have f1:=rC.free 0;go_simp
   refine a _ _ ?_;clear a q c1 f1;simp only[Qa,Qb,Qc];refine⟨λh=>absurd rfl h,?_⟩;refine Zv (by kernel_rfl) ?_ _;exact⟨C,K,g,rfl,AaL rC rK (ag.go (bK.mono hK)) (ac.below bb ac.lt) (o.trans (bb.mono o.size)) ⟨by have:=ab.size;omega,by have:=b1.size;have:=o.size;omega,by have:=o.size;omega,hR⟩⟩
 obtain rfl:e=.normal:=by cases e<;>first|rfl|exact h.elim
 obtain⟨C,K,g,rfl,j⟩:=h;clear aa rR af bd hS ab hR;dsimp only;go_wp2_with (refine Qs _ rfl ?_)
 refine Stop.to ?_;refine Qi rfl 3 rfl _ _ (Ac0 _) rfl ?_;intro N w2 hN rN bN;go_wp2_with (refine Qk _ _ _ rfl ?_)
 refine Stop.to ?_;refine Qt rfl 3 _ _ rfl N 0 rfl _ rfl [.int .i64 0] rfl 3 #[.int .i64 0] #[.int .i64 0] rN (by kernel_rfl) (by simp) (by simp[Value.oneCell']) rfl ?_;intro w3 r3 o3;have aj:=j.go ((bN.mono hN).trans (o3.below hN));have ap:Hid (w.heap.size<=N):=by have:=j.below.size;show _<=_;omega
 clear rN bN o3 j hN;go_wp2_with fail
 obtain⟨F,hF⟩:∃F,F=w3.heap.size:=⟨_,rfl⟩;rw[<-hF];change Code.wp _ _ _ _ (w3.alloc (.cells (Ey C N) 100));obtain⟨W4,ae⟩:∃W4,W4=w3.alloc (.cells (Ey C N) 100):=⟨_,rfl⟩;have rF:Row W4 F 100 (Ey C N):=by rw[ae,hF];exact Row.new _ _ _
 have b4:Below w3.heap.size w3 W4:=by rw[ae];exact(Below.refl _ _).alloc (Nat.le_refl _) _
 have ak:=aj.go b4;have r4:=r3.below b4 r3.lt;rw[<-ae];clear hF ae b4 aj r3;go_loopw [37] (λi W=>∃k:Nat,i=.int .i64 (k:Int)/\Row W F 100 (Ey C N)/\GetP w W R C K g N u k) (λi _=>4-(intOf i).toNat)
 case atStart=>exact⟨0,rfl,rF,.s0 ak r4⟩
 case round=>
  obtain⟨k,rfl,hF,hP⟩:=hrel;clear rF ak r4;cases hP with
  |s0 j hn=>
   have c1:=hF.cellv (i:=0) (v:=.func (.func 142) #[] #[.pointer (some ⟨C,0,none⟩)]) rfl
   have n:Hid (Calls Tryz.prog 142 #[.pointer (some ⟨C,0,none⟩)] wr λe w'=>e=.returned (.int .i64 (ge1 u))/\Row w' F 100 (Ey C N)/\GetB w w' R C K g u (gx1 u)/\Row w' N 3 #[.int .i64 0]):=
    (Ai6 w.heap.size C K g u gx0 (Nat.zero_le _) ah j.lo.2.1 j.lo.2.2.1 N _ wr j.cut hn).mono λe w' h=>⟨h.1,h.2.2.1.row _ _ _ hF (by decide) (by decide) (by decide),j.step h.2.1 h.2.2.1,h.2.2.2⟩
   by_cases m:ge1 u=0
   ·rw[m]at n;go_wp2_with fail
    refine n.out.mono ?_;rintro e w7 ⟨rfl,h2⟩;clear n c1 hF j;(obtain⟨l,b,an⟩:=h2);go_wp2_with fail
    go_roundw
    case rel=>exact⟨_,by go_num,l,.s1 b an m⟩
    case measure=>simp[intOf]
   ·obtain⟨er,z⟩:∃er,er=ge1 u:=⟨_,rfl⟩;have HX:Hid (¬(ge1 u=0/\ge2 u=0/\ge3 u=0/\ge4 u=0)):=λh=>m ((λh=>h.1) h);rw[<-z]at n m;go_wp2_with fail
    refine n.out.mono ?_;rintro e w7 ⟨rfl,h2⟩;clear n c1 hF j z;(obtain⟨l,b,an⟩:=h2);have HB:=Lv b;clear b l;go_wp2_with (refine Qk _ _ _ rfl ?_)
    refine Stop.to ?_;refine Qh rfl 48 _ _ rfl R (QO ⟨0,[]⟩) rfl rfl 48 _ HB.out.res (by kernel_rfl) rfl (by simp[QO,Value.oneCell']) ?_;intro w8 r8 o8;have ad:=Ql HB.out.below o8 HB.out.lo.2.2.2;clear o8;go_wp2_with fail
    refine bodyPost_ret (ZI Tryz.results75 _ _ R 48 _ (0,0) _ rfl r8 Tryz.underlying48 rfl (by kernel_rfl)) rfl ?_;exact⟨⟨er,m,rfl⟩,ad⟩
  |s1 j hn h1=>
   have c1:=hF.cellv (i:=1) (v:=.func (.func 145) #[] #[.pointer (some ⟨C,0,none⟩),.pointer (some ⟨N,0,none⟩)]) rfl
   have n:Hid (Calls Tryz.prog 145 #[.pointer (some ⟨C,0,none⟩),.pointer (some ⟨N,0,none⟩)] wr λe w'=>e=.returned (.int .i64 (ge2 u))/\Row w' F 100 (Ey C N)/\(ge2 u=0->GetB w w' R C K g u (gx2 u)/\Row w' N 3 #[.int .i64 (gn2 u)])/\∃y,GetB w w' R C K g u y):=
    (Ai7 w.heap.size C K g N u (gx1 u) 0 (AfN u) ah j.lo.2.1 j.lo.2.2.1 ap.out wr j.cut hn).mono λe w' h=>⟨h.1,h.2.2.2.row _ _ _ hF (by decide) (by decide) (by decide),λm=>by
     have ht:JN u (gx1 u).r=false:=by
      cases hq:JN u (gx1 u).r with
      |false=>rfl
      |true=>unfold ge2 at m;rw[hq,if_pos rfl]at m;cases m
     have h3:=h.2.1
     have h4:=h.2.2.1
     rw[ht]at h3 h4
     exact⟨j.step h3 h.2.2.2,h4⟩,_,j.step h.2.1 h.2.2.2⟩
   by_cases m:ge2 u=0
   ·rw[m]at n;go_wp2_with fail
    refine n.out.mono ?_;rintro e w7 ⟨rfl,h2⟩;clear n c1 hF j;(obtain⟨l,ai,yy,b⟩:=h2);go_wp2_with fail
    go_roundw
    case rel=>exact⟨_,by go_num,l,.s2 (ai (by first|trivial|exact m)).1 (ai (by first|trivial|exact m)).2 h1 m⟩
    case measure=>simp[intOf]
   ·obtain⟨er,z⟩:∃er,er=ge2 u:=⟨_,rfl⟩;have HX:Hid (¬(ge1 u=0/\ge2 u=0/\ge3 u=0/\ge4 u=0)):=λh=>m ((λh=>h.2.1) h);rw[<-z]at n m;go_wp2_with fail
    refine n.out.mono ?_;rintro e w7 ⟨rfl,h2⟩;clear n c1 hF j z;(obtain⟨l,ai,yy,b⟩:=h2);have HB:=Lv b;clear b l;go_wp2_with (refine Qk _ _ _ rfl ?_)
    refine Stop.to ?_;refine Qh rfl 48 _ _ rfl R (QO ⟨0,[]⟩) rfl rfl 48 _ HB.out.res (by kernel_rfl) rfl (by simp[QO,Value.oneCell']) ?_;intro w8 r8 o8;have ad:=Ql HB.out.below o8 HB.out.lo.2.2.2;clear o8;go_wp2_with fail
    refine bodyPost_ret (ZI Tryz.results75 _ _ R 48 _ (0,0) _ rfl r8 Tryz.underlying48 rfl (by kernel_rfl)) rfl ?_;exact⟨⟨er,m,rfl⟩,ad⟩
  |s2 j hn h1 h2'=>
   have c1:=hF.cellv (i:=2) (v:=.func (.func 149) #[] #[.pointer (some ⟨C,0,none⟩),.pointer (some ⟨N,0,none⟩)]) rfl;have am:=Alm u;rw[am.1]at hn
   have n:Hid (Calls Tryz.prog 149 #[.pointer (some ⟨C,0,none⟩),.pointer (some ⟨N,0,none⟩)] wr λe w'=>e=.returned (.int .i64 (ge3 u))/\Row w' F 100 (Ey C N)/\GetB w w' R C K g u (gx3 u)):=
    (Ai8 w.heap.size C K g N u (gx2 u) (gn2 u).toNat (AfO u) (Adq (AfO u)) ah am.2 j.lo.2.1 j.lo.2.2.1 wr j.cut hn).mono λe w' h=>⟨h.1,h.2.2.row _ _ _ hF (by decide) (by decide) (by decide),j.step h.2.1 h.2.2⟩
   by_cases m:ge3 u=0
   ·rw[m]at n;go_wp2_with fail
    refine n.out.mono ?_;rintro e w7 ⟨rfl,h2⟩;clear n c1 hF j;(obtain⟨l,b⟩:=h2);go_wp2_with fail
    go_roundw
    case rel=>exact⟨_,by go_num,l,.s3 b h1 h2' m⟩
    case measure=>simp[intOf]
   ·obtain⟨er,z⟩:∃er,er=ge3 u:=⟨_,rfl⟩;have HX:Hid (¬(ge1 u=0/\ge2 u=0/\ge3 u=0/\ge4 u=0)):=λh=>m ((λh=>h.2.2.1) h);rw[<-z]at n m;go_wp2_with fail
    refine n.out.mono ?_;rintro e w7 ⟨rfl,h2⟩;clear n c1 hF j z;(obtain⟨l,b⟩:=h2);have HB:=Lv b;clear b l;go_wp2_with (refine Qk _ _ _ rfl ?_)
    refine Stop.to ?_;refine Qh rfl 48 _ _ rfl R (QO ⟨0,[]⟩) rfl rfl 48 _ HB.out.res (by kernel_rfl) rfl (by simp[QO,Value.oneCell']) ?_;intro w8 r8 o8;have ad:=Ql HB.out.below o8 HB.out.lo.2.2.2;clear o8;go_wp2_with fail
    refine bodyPost_ret (ZI Tryz.results75 _ _ R 48 _ (0,0) _ rfl r8 Tryz.underlying48 rfl (by kernel_rfl)) rfl ?_;exact⟨⟨er,m,rfl⟩,ad⟩
  |s3 j h1 h2' h3=>
   have c1:=hF.cellv (i:=3) (v:=.func (.func 151) #[] #[.pointer (some ⟨C,0,none⟩)]) rfl
   have n:Hid (Calls Tryz.prog 151 #[.pointer (some ⟨C,0,none⟩)] wr λe w'=>e=.returned (.int .i64 (ge4 u))/\Row w' F 100 (Ey C N)/\GetB w w' R C K g u (gx3 u)):=
    (Ai9 C K g u (gx3 u) (Ajs u) ah wr j.cut).mono λe w' h=>⟨h.1,hF.below h.2 hF.lt,j.go h.2⟩
   by_cases m:ge4 u=0
   ·rw[m]at n;go_wp2_with fail
    refine n.out.mono ?_;rintro e w7 ⟨rfl,h2⟩;clear n c1 hF j;(obtain⟨l,b⟩:=h2);go_wp2_with fail
    go_roundw
    case rel=>exact⟨_,by go_num,l,.s4 b h1 h2' h3 m⟩
    case measure=>simp[intOf]
   ·obtain⟨er,z⟩:∃er,er=ge4 u:=⟨_,rfl⟩;have HX:Hid (¬(ge1 u=0/\ge2 u=0/\ge3 u=0/\ge4 u=0)):=λh=>m ((λh=>h.2.2.2) h);rw[<-z]at n m;go_wp2_with fail
    refine n.out.mono ?_;rintro e w7 ⟨rfl,h2⟩;clear n c1 hF j z;(obtain⟨l,b⟩:=h2);have HB:=Lv b;clear b l;go_wp2_with (refine Qk _ _ _ rfl ?_)
    refine Stop.to ?_;refine Qh rfl 48 _ _ rfl R (QO ⟨0,[]⟩) rfl rfl 48 _ HB.out.res (by kernel_rfl) rfl (by simp[QO,Value.oneCell']) ?_;intro w8 r8 o8;have ad:=Ql HB.out.below o8 HB.out.lo.2.2.2;clear o8;go_wp2_with fail
    refine bodyPost_ret (ZI Tryz.results75 _ _ R 48 _ (0,0) _ rfl r8 Tryz.underlying48 rfl (by kernel_rfl)) rfl ?_;exact⟨⟨er,m,rfl⟩,ad⟩
  |s4 j h1 h2 h3 h4=>
   clear hF;go_wp2_with fail
   have HA:=Lv (λW h=>YR g u (gx3 u).r W h);have HX:Hid (ge1 u=0/\ge2 u=0/\ge3 u=0/\ge4 u=0):=⟨h1,h2,h3,h4⟩;have ao:=Ajs u;obtain⟨y,hy⟩:∃y,y=gx3 u:=⟨_,rfl⟩;rw[<-hy]at HA j ao;have Hy:=Lv hy;clear hy;obtain⟨⟨p,er⟩,t,d,tl⟩:=y;simp only at HA ao;have ax:(p:Int)<=900000:=by omega
   clear h1 h2 h3 h4;obtain⟨Vd,aa⟩:∃Vd,Vd=wr.drew:=⟨_,rfl⟩;have bd:Below wr.heap.size wr Vd:=by rw[aa];exact St.drew (S:=λW=>Below wr.heap.size wr W) (Below.refl _ _)
   have a0:IntKind.i64.wrap ((at_:Int)+(p:Int))=(at_:Int)+(p:Int):=IntWalk.i64_in _ (by omega);refine wp_region_held (S:=λW=>CutO W C K g u ⟨⟨p,er⟩,t,d,tl⟩) (by kernel_rfl) ?_;simp only[Ly,Le,Ll,Nat.reduceAdd,Ln,Lp,Lz,Lu,Lk];have hG:=j.go bd;have hS:=hG.cut;show wpAnyH _ _ _ _ _ _ _ _ wr.drew;rw[<-aa];clear aa j bd;(refine tkH 0 (.pointer (some ⟨K,0,none⟩)) rfl (Qd rfl (λW x=>by((have c:=x.c.cellv (i:=0) (v:=.pointer (some ⟨K,0,none⟩)) rfl;go_simp)))) ?_;simp only[Act.put,Qa,Qb,Qc]);(refine tkH 1 (.pointer (some ⟨K,0,none⟩)) rfl (Qd rfl (λW x=>by(go_simp))) ?_;simp only[Act.put,Qa,Qb,Qc]);(refine tkH 2 (.pointer (some ⟨K,2,none⟩)) rfl (Qd rfl (λW x=>by(go_simp))) ?_;simp only[Act.put,Qa,Qb,Qc]);(refine tkH 3 _ rfl ((AbA rfl 48 _ rfl ⟨K,2,none⟩ rfl (QO ⟨t,d⟩).toList _ (λW x=>Ak3 x.k) Tryz.underlying48 rfl (by kernel_rfl))) ?_;simp only[Act.put,Qa,Qb,Qc]);(refine tkH 4 (.int .i64 (at_:Int)) rfl (Qd rfl (λW x=>by(go_simp))) ?_;simp only[Act.put,Qa,Qb,Qc]);(refine tkH 5 (.pointer (some ⟨K,0,none⟩)) rfl (Qd rfl (λW x=>by((have c:=x.c.cellv (i:=0) (v:=.pointer (some ⟨K,0,none⟩)) rfl;go_simp)))) ?_;simp only[Act.put,Qa,Qb,Qc]);(refine tkH 6 (.pointer (some ⟨K,0,none⟩)) rfl (Qd rfl (λW x=>by(go_simp))) ?_;simp only[Act.put,Qa,Qb,Qc]);(refine tkH 7 (.pointer (some ⟨K,0,none⟩)) rfl (Qd rfl (λW x=>by(go_simp))) ?_;simp only[Act.put,Qa,Qb,Qc]);(refine tkH 8 (.pointer (some ⟨g,0,none⟩)) rfl (Qd rfl (λW x=>by((have c:=x.k.cellv (i:=0) (v:=.pointer (some ⟨g,0,none⟩)) rfl;go_simp)))) ?_;simp only[Act.put,Qa,Qb,Qc]);(refine tkH 9 (.pointer (some ⟨g,0,none⟩)) rfl (Qd rfl (λW x=>by(go_simp))) ?_;simp only[Act.put,Qa,Qb,Qc]);(refine tkH 10 (.pointer (some ⟨g,0,none⟩)) rfl (Qd rfl (λW x=>by(go_simp))) ?_;simp only[Act.put,Qa,Qb,Qc]);(refine wpAnyH_all (rs:=[11]) (by kernel_rfl) (by simp) (λi hi=>?_);obtain rfl:i=11:=by simpa using hi);refine Qg rfl rfl (λq a=>?_);refine Qm 147 #[.pointer (some ⟨g,0,none⟩)] (w1:=Vd) (by go_simp) ((HA.out Vd hS.r).mono ?_);rintro e W1 ⟨rfl,rfl⟩;refine⟨_,rfl,?_⟩;refine a _ _ ?_;clear a q;simp only[Act.put,Qa,Qb,Qc];refine⟨hS,?_⟩;(refine tkH 12 (.int .i64 ((at_:Int)+(p:Int))) rfl (Qd rfl (λW x=>by(go_simp))) ?_;simp only[Act.put,Qa,Qb,Qc]);(refine wpAnyH_all (rs:=[13]) (by kernel_rfl) (by simp) (λi hi=>?_);obtain rfl:i=13:=by simpa using hi);refine Qg rfl rfl (λq a=>?_);refine VJ 48 (.tmp 4) (.tmp 52) rfl R (QO ⟨t,d⟩) rfl rfl 48 _ hG.res (by kernel_rfl) rfl (by simp[QO,Value.oneCell']) (λW2 r2 o2=>?_);refine a _ _ ?_;clear a q;simp only[Act.put,Qa,Qb,Qc];have al:CutO W2 C K g u ⟨⟨p,er⟩,t,d,tl⟩:=⟨hS.c.only o2 (Q5 hS.c hG.res (by decide)),hS.k.only o2 (Q5 hS.k hG.res (by decide)),hS.r.only o2 (Q5 hS.r hG.res (by decide))⟩;refine⟨al,?_⟩;have aq:=Ql hG.below o2 hG.lo.2.2.2;clear hS hG o2;(refine tkH 14 (.int .i64 ((at_:Int)+(p:Int))) rfl (Qd rfl (λW x=>by(go_simp))) ?_;simp only[Act.put,Qa,Qb,Qc]);(refine tkH 15 (.int .i64 0) rfl (Qd rfl (λW x=>by(go_simp))) ?_;simp only[Act.put,Qa,Qb,Qc]);refine wpAnyH_done (by kernel_rfl) ?_ _;clear al;go_wp2_with fail
   refine bodyPost_ret (ZI Tryz.results75 _ _ R 48 _ (0,0) _ rfl r2 Tryz.underlying48 rfl (by kernel_rfl)) rfl ?_;rw[<-Hy.out];exact⟨rfl,aq⟩
end Go.Proofs.YtgnmkiafeplbpaaGreatDoor
namespace Go.Proofs.YtgnmkiafeplbpaaGreatDoor
open Go.RowKit Go.Deep
attribute [local go_sem] Oper.semAt_some
theorem UT (B g:Nat)(l:List UInt8)(n:Nat)(hl:l.length<=1000000)(hn:n<9223372036854775808)(w:World)(h:Wr w B g l):
 Calls Tryz.prog 83 #[.pointer (some ⟨g,0,none⟩),.int .i64 (n:Int)] w λe w'=>e=.returned (.pointer (some ⟨g,0,none⟩))/\Wr w' B g (l++QC n)/\WrEff B g w w':=by
 have a:=Lv (Z2 B g l n hl (by omega) w h);have d:IntKind.u64.wrap (n:Int)=(n:Int):=by rw[IntKind.wrap_u64];omega
 clear h hl hn;go_enter Tryz.func83,Tryz.ntmps83
 go_wp2_with fail
 refine a.out.mono ?_;rintro e i ⟨rfl,c,b⟩;go_wp2_with fail
 go_ret
 exact⟨rfl,c,b⟩
theorem Kx (w:World):(zeroValue 122).run Tryz.prog w=.ok (.agg #[.nilFunc,.nilFunc]) w:=by kernel_rfl
def ZG (k:Int):Array Value:=if k=2 then #[.func (.func 89) #[] #[],.func (.func 161) #[] #[]]else if k=1 then #[.func (.func 83) #[] #[],.func (.func 162) #[] #[]]else #[.nilFunc,.nilFunc]
theorem AjL (t:Int)(w:World):
 Calls Tryz.prog 86 #[.int .i64 t] w λe w'=>e=.returned (.tuple #[.agg (ZG (XI t)),.bool (decide (XI t≠0))])/\Below w.heap.size w w':=by
 go_enter Tryz.func86,Tryz.ntmps86
 go_wp2_with (refine Qs _ rfl ?_)
 refine Stop.to ?_;refine Qi rfl 122 rfl _ _ (Kx _) rfl ?_;intro R s a d c;by_cases j:t=1
 ·subst j;go_wp2_with (refine Qk _ _ _ rfl ?_)
  refine Stop.to ?_;refine Qh rfl 122 _ _ rfl R (ZG 2) rfl rfl 122 _ d (by kernel_rfl) rfl (by simp[ZG,Value.oneCell']) ?_;intro i h b;have g:Hid (Below w.heap.size w i):=(c.mono a).trans (b.below a);clear d c a b;go_wp2_with fail
  refine bodyPost_ret (Qv Tryz.results86 _ _ R 122 _ (0,0) _ rfl h Tryz.underlying122 rfl (by kernel_rfl)) rfl ?_;exact⟨rfl,g.out⟩
 by_cases l:t=2
 ·subst l;go_wp2_with (refine Qk _ _ _ rfl ?_)
  refine Stop.to ?_;refine Qh rfl 122 _ _ rfl R (ZG 1) rfl rfl 122 _ d (by kernel_rfl) rfl (by simp[ZG,Value.oneCell']) ?_;intro i h b;have g:Hid (Below w.heap.size w i):=(c.mono a).trans (b.below a);clear d c a b;go_wp2_with fail
  refine bodyPost_ret (Qv Tryz.results86 _ _ R 122 _ (0,0) _ rfl h Tryz.underlying122 rfl (by kernel_rfl)) rfl ?_;exact⟨rfl,g.out⟩
 by_cases m:t=3
 ·subst m;go_wp2_with (refine Qk _ _ _ rfl ?_)
  refine Stop.to ?_;refine Qh rfl 122 _ _ rfl R (ZG 1) rfl rfl 122 _ d (by kernel_rfl) rfl (by simp[ZG,Value.oneCell']) ?_;intro i h b;have g:Hid (Below w.heap.size w i):=(c.mono a).trans (b.below a);clear d c a b;go_wp2_with fail
  refine bodyPost_ret (Qv Tryz.results86 _ _ R 122 _ (0,0) _ rfl h Tryz.underlying122 rfl (by kernel_rfl)) rfl ?_;exact⟨rfl,g.out⟩
 by_cases n:t=4
 ·subst n;go_wp2_with (refine Qk _ _ _ rfl ?_)
  refine Stop.to ?_;refine Qh rfl 122 _ _ rfl R (ZG 1) rfl rfl 122 _ d (by kernel_rfl) rfl (by simp[ZG,Value.oneCell']) ?_;intro i h b;have g:Hid (Below w.heap.size w i):=(c.mono a).trans (b.below a);clear d c a b;go_wp2_with fail
  refine bodyPost_ret (Qv Tryz.results86 _ _ R 122 _ (0,0) _ rfl h Tryz.underlying122 rfl (by kernel_rfl)) rfl ?_;exact⟨rfl,g.out⟩
 by_cases o:t=20
 ·subst o;go_wp2_with (refine Qk _ _ _ rfl ?_)
  refine Stop.to ?_;refine Qh rfl 122 _ _ rfl R (ZG 1) rfl rfl 122 _ d (by kernel_rfl) rfl (by simp[ZG,Value.oneCell']) ?_;intro i h b;have g:Hid (Below w.heap.size w i):=(c.mono a).trans (b.below a);clear d c a b;go_wp2_with fail
  refine bodyPost_ret (Qv Tryz.results86 _ _ R 122 _ (0,0) _ rfl h Tryz.underlying122 rfl (by kernel_rfl)) rfl ?_;exact⟨rfl,g.out⟩
 by_cases p:t=21
 ·subst p;go_wp2_with (refine Qk _ _ _ rfl ?_)
  refine Stop.to ?_;refine Qh rfl 122 _ _ rfl R (ZG 1) rfl rfl 122 _ d (by kernel_rfl) rfl (by simp[ZG,Value.oneCell']) ?_;intro i h b;have g:Hid (Below w.heap.size w i):=(c.mono a).trans (b.below a);clear d c a b;go_wp2_with fail
  refine bodyPost_ret (Qv Tryz.results86 _ _ R 122 _ (0,0) _ rfl h Tryz.underlying122 rfl (by kernel_rfl)) rfl ?_;exact⟨rfl,g.out⟩
 by_cases q:t=22
 ·subst q;go_wp2_with (refine Qk _ _ _ rfl ?_)
  refine Stop.to ?_;refine Qh rfl 122 _ _ rfl R (ZG 1) rfl rfl 122 _ d (by kernel_rfl) rfl (by simp[ZG,Value.oneCell']) ?_;intro i h b;have g:Hid (Below w.heap.size w i):=(c.mono a).trans (b.below a);clear d c a b;go_wp2_with fail
  refine bodyPost_ret (Qv Tryz.results86 _ _ R 122 _ (0,0) _ rfl h Tryz.underlying122 rfl (by kernel_rfl)) rfl ?_;exact⟨rfl,g.out⟩
 have k:Hid (XI t=0):=by show _=_;unfold XI;rw[if_neg j,if_neg (by omega)]
 go_wp2_with (refine Qk _ _ _ rfl ?_)
 refine Stop.to ?_;refine Qh rfl 122 _ _ rfl R (ZG 0) rfl rfl 122 _ d (by kernel_rfl) rfl (by simp[ZG,Value.oneCell']) ?_;intro i h b;have g:Hid (Below w.heap.size w i):=(c.mono a).trans (b.below a);clear d c a b;go_wp2_with fail
 refine bodyPost_ret (Qv Tryz.results86 _ _ R 122 _ (0,0) _ rfl h Tryz.underlying122 rfl (by kernel_rfl)) rfl ?_;exact⟨(by rw[k.out];rfl),g.out⟩
end Go.Proofs.YtgnmkiafeplbpaaGreatDoor
