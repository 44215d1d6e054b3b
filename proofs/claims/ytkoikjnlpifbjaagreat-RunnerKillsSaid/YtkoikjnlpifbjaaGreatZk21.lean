/- Lemmas for RunnerKillsP. -/
import Derived.Test.YtkoikjnlpifbjaaGreatZk1
import Derived.Test.YtkoikjnlpifbjaaGreatZk20
import Derived.Test.YtkoikjnlpifbjaaGreatZk6
import Derived.Laws.CopyRow
import Derived.Lib.Overlaps
import Derived.Lib.AppendZerosOnto
set_option linter.unusedVariables false
set_option linter.unusedSimpArgs false
set_option maxRecDepth 100000
set_option maxHeartbeats 16000000
namespace Go.Proofs.YtkoikjnlpifbjaaGreat
open Go.RowKit Go.Deep
theorem Acn{P:Program}{o:Oper}{w w1:World}{ρ:Operand->Value}{x lo:Operand}{t:TypeId}(ho:o.op=.slice t x (some lo) none none){v:Value}(hv:(Instr.sliceAt t (ρ x) (some (ρ lo)) none none).run P w=.ok v w1):(execOp ρ o).run P w=.ok (.value v) w1:=by
 simp only[execOp,ho,Nq,Option.map_none,Sem.run_bind,hv,Result.andThen_ok,Sem.run_pure]
theorem Acm{P:Program}{o:Oper}{w w1:World}{ρ:Operand->Value}{x hi:Operand}{t:TypeId}(ho:o.op=.slice t x none (some hi) none){v:Value}(hv:(Instr.sliceAt t (ρ x) none (some (ρ hi)) none).run P w=.ok v w1):(execOp ρ o).run P w=.ok (.value v) w1:=by
 simp only[execOp,ho,Nq,Option.map_none,Sem.run_bind,hv,Result.andThen_ok,Sem.run_pure]
theorem Akp (W:World)(A:Option Addr)(n cap p:Nat)(h:p<=n):(Instr.sliceAt 23 (.slice A n cap) (some (.int .i64 (p:Int))) none none).run Tryz.prog W=.ok (sliced A p n cap 2) W:=by
 refine(run_sliceAt_slice (P:=Tryz.prog) (w:=W) 23 (.slice A n cap) (some (.int .i64 (p:Int))) none none (by kernel_rfl)).trans ?_;refine(run_slice_l (P:=Tryz.prog) (w:=W) 23 A n cap (by kernel_rfl) .i64 (p:Int) (by omega) (by omega)).trans ?_;rw[Ln,show(sizeOf (Tryz.prog.elem 23)).run Tryz.prog W=.ok 2 W from by kernel_rfl];rfl
theorem Ako (W:World)(A:Option Addr)(n cap q:Nat)(h:q<=cap):(Instr.sliceAt 23 (.slice A n cap) none (some (.int .i64 (q:Int))) none).run Tryz.prog W=.ok (sliced A 0 q cap 2) W:=by
 refine(run_sliceAt_slice (P:=Tryz.prog) (w:=W) 23 (.slice A n cap) none (some (.int .i64 (q:Int))) none (by kernel_rfl)).trans ?_;refine(run_slice_h (P:=Tryz.prog) (w:=W) 23 A n cap (by kernel_rfl) .i64 (q:Int) (by omega) (by omega)).trans ?_;rw[Ln,show(sizeOf (Tryz.prog.elem 23)).run Tryz.prog W=.ok 2 W from by kernel_rfl];rfl
theorem Af8{A:Option Addr}{l:List Nd}{p q cap:Nat}(hpq:p<=q)(hq:q<=l.length)(hc:l.length<=cap)(hA:A≠none):∃X,sliced A p q cap 2=.slice X (q-p) (cap-p)/\X≠none/\∀W:World,Rd W A (l.flatMap Nd.cells)->Rd W X (((l.take q).drop p).flatMap Nd.cells):=by
 by_cases c:cap=p
 ·refine⟨A,by simp[sliced,c],hA,λW h=>?_⟩;rw[N2 (by rw[L1];omega)];exact Rd.nil _ _
 ·refine⟨A.map (·.add (p*2)),by simp[sliced,c],by simpa using hA,λW h=>?_⟩;by_cases g:((l.take q).drop p).flatMap Nd.cells=[]
  ·rw[g];exact Rd.nil _ _
  ·have e:l=l.take p++((l.take q).drop p++l.drop q):=by
     have k:l.take q=l.take p++(l.take q).drop p:=by
      have:(l.take q).take p=l.take p:=by rw[NA,NI hpq]
      rw[<-this,LF]
     rw[<-Ly, <-k,LF]
   have d:((l.take p).flatMap Nd.cells).length=p*2:=by rw[Z7,L1];congr 1;omega
   obtain⟨m,k,n⟩:=Rd.part h (p*2) (((l.take q).drop p).flatMap Nd.cells) (λj u i=>by
    have o:l.flatMap Nd.cells=(l.take p).flatMap Nd.cells++(((l.take q).drop p).flatMap Nd.cells++(l.drop q).flatMap Nd.cells):=by
     conv=>lhs;rw[e]
     rw[L6,L6]
    rw[o,Lx (by omega),d,Np,L3 (La.1 i).1]
    exact i) g
   subst k;exact λj u i=>⟨_,rfl,n j u i⟩
theorem Age (A B:Option Addr)(cap c:Nat)(l g:List Nd)(q:Nat)(t:Tr)(w:World)(hat:At l q t)(hr:Rd w A (l.flatMap Nd.cells))(hg:Rd w B (g.flatMap Nd.cells))(hB:B=none->g=[])(hl:l.length<=1000)(hgl:g.length<=1000)(hlc:l.length<=cap)(hcm:cap<=maxLen):
 Calls Tryz.prog 130 #[.slice A l.length cap,.int .i64 (q:Int),.slice B g.length c] w λe w'=>NdsR (l.take q++(g++l.drop (q+t.size))) w w' e:=by
 have he:=JH A cap l (q:Int) w hr hl;rw[hat.endZ]at he;have ac:=hat.le;obtain⟨ad,y,_⟩:=J6 hr hat.root;have hA:A≠none:=by rw[y];simp
 obtain⟨to,z⟩:∃to,to=q+t.size:=⟨_,rfl⟩;rw[<-z]at he|-;obtain⟨X,hX,s,m⟩:=Af8 (A:=A) (l:=l) (p:=0) (q:=q) (cap:=cap) (by omega) (by omega) hlc hA;obtain⟨Y,hY,u,n⟩:=Af8 (A:=A) (l:=l) (p:=to) (q:=l.length) (cap:=cap) (by omega) (by omega) hlc hA;rw[LA]at m;rw[LT]at n;have aa:q-0=(l.take q).length:=by rw[L1];omega
 have ab:l.length-to=(l.drop to).length:=by rw[LO]
 rw[aa,Nat.sub_zero]at hX;rw[ab]at hY;obtain⟨S,i⟩:∃S,S=(λW=>(Rd W A (l.flatMap Nd.cells)/\Rd W B (g.flatMap Nd.cells))/\Below w.heap.size w W):=⟨_,rfl⟩;have ae:St S:=by rw[i];infer_instance
 have T0:Hid (∀W,S W->Rd W A (l.flatMap Nd.cells)):=by show ∀W,_;rw[i];exact λW h=>h.1.1
 have T1:Hid (∀W,S W->Rd W B (g.flatMap Nd.cells)):=by show ∀W,_;rw[i];exact λW h=>h.1.2
 have T2:Hid (∀W,S W->Below w.heap.size w W):=by show ∀W,_;rw[i];exact λW h=>h.2
 have hS:S w:=by rw[i];exact⟨⟨hr,hg⟩,Below.refl _ _⟩
 have He:=Lh he;have HX:=Lh (And.intro hX (And.intro s m));have HY:=Lh (And.intro hY (And.intro u n));have Hn:=Lh (And.intro (And.intro hl hgl) (And.intro (And.intro hlc hcm) (And.intro hB (show q<=l.length/\to<=l.length by omega))));have ag:0<=(to:Int):=by omega
 have af:¬((to:Int)<0):=by omega
 clear i he hX s m hY u n aa ab y hat hr hg hB hl hgl hlc hcm ac z hA;go_enter Tryz.func130,Tryz.ntmps130
 go_wp2_with fail
 refine He.out.mono ?_;rintro e w1 ⟨rfl,b1⟩;replace hS:=ae.go hS b1;clear He b1;go_wp2_with fail
 refine ZG S 7 (by kernel_rfl) (by kernel_rfl) (St.drew hS) ?_;clear hS;simp only[L0,LE,Lz,LA]
 iterate 2 (refine Qg rfl ?_ (λW k=>?_) ?_;rotate_left;(focus(go_simp;exact rfl));simp only[Act.put,Qa,Qb,Qc])
 (refine Qg rfl (.slice X (l.take q).length cap) (λW k=>by rw[<-HX.out.1];exact Acm rfl (Ako W A l.length cap q (by have:=Hn.out;omega))) ?_;simp only[Act.put,Qa,Qb,Qc])
 iterate 3 (refine Qg rfl ?_ (λW k=>?_) ?_;rotate_left;(focus(go_simp;exact rfl));simp only[Act.put,Qa,Qb,Qc])
 (refine Qg rfl (.slice Y (l.drop to).length (cap-to)) (λW k=>by rw[<-HY.out.1];exact Acn rfl (Akp W A l.length cap to (by have:=Hn.out;omega))) ?_;simp only[Act.put,Qa,Qb,Qc]);refine Q4 λW k=>?_
 go_wp2_with (refine ZJ _ _ _ rfl ?_)
 refine Stop.to ?_;refine QA rfl 284 3 _ rfl 23 #[PtV.val ⟨X,cap,l.take q⟩,PtV.val ⟨B,c,g⟩,PtV.val ⟨Y,cap-to,l.drop to⟩] (λW=>by kernel_rfl) ?_;intro G w2 hG rG bG;have b2:=(T2.out W k).trans ((bG.mono hG).mono (T2.out W k).size);have bW:=(Below.refl W.heap.size W).trans (bG.mono hG)
 have hj:=EQ (some ⟨G,0,none⟩) 3 3 [⟨X,cap,l.take q⟩,⟨B,c,g⟩,⟨Y,cap-to,l.drop to⟩] w2 rfl (Jz (cs:=[PtV.val ⟨X,cap,l.take q⟩,PtV.val ⟨B,c,g⟩,PtV.val ⟨Y,cap-to,l.drop to⟩]) rG) (λx hx=>by
  simp only[Ls,Lw,or_false]at hx
  rcases hx with rfl|rfl|rfl
  ·exact⟨(HX.out.2.2 W (T0.out W k)).go bW,λe=>absurd e HX.out.2.1⟩
  ·exact⟨(T1.out W k).go bW,Hn.out.2.2.1⟩
  ·exact⟨(HY.out.2.2 W (T0.out W k)).go bW,λe=>absurd e HY.out.2.1⟩) (by simp[Zh];have:=Hn.out;omega) (by omega)
 have Hj:=Lh hj;have HB:=Lh b2;clear hj b2 bW rG bG hG;go_wp2_with fail
 refine Hj.out.mono ?_;rintro e w3 ⟨v,rfl,d,b3⟩;rw[show Zh [⟨X,cap,l.take q⟩,⟨B,c,g⟩,⟨Y,cap-to,l.drop to⟩]=l.take q++(g++l.drop to) by simp[Zh]]at d;have b4:=HB.out.trans (b3.mono HB.out.size);have j:=QR d HB.out.size;obtain⟨n3,o⟩:∃n3,n3=(l.take q++(g++l.drop to)).length:=⟨_,rfl⟩;rw[<-o]at j d;obtain⟨A3,c3,rfl⟩:=Zq d;have HF:=Lh j;have HN:=Lh o;have H4:=Lh b4;clear d j o b3 b4 Hj HB;go_wp2_with fail
 go_ret
 exact⟨_,rfl,by rw[<-HN.out];exact HF.out,H4.out⟩
theorem KL{P:Program}(w:World)(dT sT ty elem:TypeId)(size g o dLen dCap:Nat)(a:Addr)(sLen sCap:Nat)(cur:Array Value)(t:TypeId)(cs:List Value)
 (hu:P.underlying dT=some (.slice elem)) (hs:(P.info? elem).map (·.size)=some size)
 (hg:Row w g t cur) (hn:cs.length=Nat.min sLen dLen*size)
 (hsrc:∀j v,cs[j]? =some v->w.cell? (a.add j)=some v) (hfit:o+cs.length<=cur.size) (h1:∀v∈cs,v.oneCell'=true):
 (Builtin.copy_ #[dT,sT] ty #[.slice (some ⟨g,o,none⟩) dLen dCap,.slice (some a) sLen sCap]).run P w=
  .ok (goInt (Nat.min sLen dLen)) (w.setRow g (ZS cur o cs)):=by
 have d:=run_loadCells_list (P:=P) w a cs hsrc;have c:=run_storeCells_at P g o t cs 0 cur w hg (by simpa using hfit) h1;cases hq:P.info? elem with
 |none=>simp[hq]at hs
 |some i=>
  have hi:i.size=size:=by simpa[hq]using hs
  simp[Builtin.copy_,run_underlying hu,Builtin.lenOf,Builtin.firstCells,sizeOf,typeInfo,hq,hi, <-hn,d,c,ZS]
theorem Ahb{cur:Array Value}{l:List Nd}{n i cap:Nat}(y:Nd)(hl:l.length=n)(hc:cur.size=cap*2)(hn:n+1<=cap)(hi:i<=n)(ht:cur.toList.take (n*2)=l.flatMap Nd.cells):
 (ZS (ZS cur ((i+1)*2) ((l.drop i).flatMap Nd.cells)) (i*2) y.cells).toList.take ((n+1)*2)=(l.take i++y::l.drop i).flatMap Nd.cells:=by
 have e:(l.take i).flatMap Nd.cells=cur.toList.take (i*2):=by
  have g:l.flatMap Nd.cells=(l.take i).flatMap Nd.cells++(l.drop i).flatMap Nd.cells:=by rw[<-L6,LF]
  have h:((l.take i).flatMap Nd.cells).length=i*2:=by rw[Z7,L1];congr 1;omega
  have c:=congrArg (List.take (i*2)) (ht.trans g);rw[Nt h,NA,NI (by omega)]at c;exact c.symm
 have o:((l.drop i).flatMap Nd.cells).length=(n-i)*2:=by rw[Z7,LO,hl]
 have d:y.cells.length=2:=rfl;have m:cur.toList.length=cap*2:=by rw[LU,hc]
 rw[L6,L8,e];unfold ZS;simp only[List.toList_toArray];have j:(cur.toList.take ((i+1)*2)).length=(i+1)*2:=by rw[L1];omega
 have p:(cur.toList.take ((i+1)*2)++(l.drop i).flatMap Nd.cells++cur.toList.drop ((i+1)*2+((l.drop i).flatMap Nd.cells).length)).take (i*2)=cur.toList.take (i*2):=by
  rw[Ly,No (by omega),NA,NI (by omega)]
 have q:(cur.toList.take ((i+1)*2)++(l.drop i).flatMap Nd.cells++cur.toList.drop ((i+1)*2+((l.drop i).flatMap Nd.cells).length)).drop (i*2+y.cells.length)=(l.drop i).flatMap Nd.cells++cur.toList.drop ((i+1)*2+((l.drop i).flatMap Nd.cells).length):=by
  rw[Ly];exact List.drop_left' (by rw[j,d];omega)
 rw[p,q]
 have k:(cur.toList.take (i*2)++y.cells++(l.drop i).flatMap Nd.cells).length=(n+1)*2:=by
  simp only[Le,L1,o,d];omega
 rw[<-Ly,Nt k,Ly]
theorem AfL{ops:Array Oper}{rest:List Oper}{o:Oper}{a:Act}{w:World}{Q:Exit->Act->World->Prop}(s x:Operand)(t u:TypeId)(_:o.op=.call { callee:=.builtin .copy,args:=#[s,x],argTypes:=#[t,u] })(h:Stop (wpList Tryz.prog ops Q (o::rest) a w) id):wpList Tryz.prog ops Q (o::rest) a w:=h.out
theorem Adr (g J cap i:Nat)(l:List Nd)(y:Nd)(cur:Array Value)(w:World)(hg:Row w g 65 cur)(hs:cur.size=cap*2)(ht:cur.toList.take (l.length*2)=l.flatMap Nd.cells)(hn:l.length+1<=cap)(hc:cap<=maxLen)(hl:l.length<=1000)(hi:i<l.length)(hJ:Row w J 65 #[.int .i64 y.tag,.int .i64 y.n])(hne:J≠g)(B:Nat)(hB:B<=g):
 Calls Tryz.prog 131 #[.slice (some ⟨g,0,none⟩) l.length cap,.int .i64 (i:Int),.slice (some ⟨J,0,none⟩) 1 1] w λe w'=>e=.returned (.slice (some ⟨g,0,none⟩) (l.length+1) cap)/\(∃cur',Row w' g 65 cur'/\cur'.size=cap*2/\cur'.toList.take ((l.length+1)*2)=(l.take i++y::l.drop i).flatMap Nd.cells)/\Below B w w':=by
 have t:∀(W:World) (lb cb:Nat),Row W J 65 #[.int .i64 y.tag,.int .i64 y.n]->Row W g 65 cur->(callFunc 164 #[.slice (some ⟨J,0,none⟩) 1 1,.slice (some ⟨g,(i+1)*2,none⟩) lb cb]).run Tryz.prog W=.ok (.value (.bool false)) W:=λW lb cb h1 h2=>by
  rw[run_callFunc_extern Tryz.func164 (by kernel_rfl) (by kernel_rfl) (by kernel_rfl) (e:=Extern.SlicesOverlaps.overlaps #[23,23] #[4]) (by kernel_rfl),
   Lib.run_overlaps_apart W 23 4 65 Tryz.underlying23 2 (λW=>by kernel_rfl) ⟨J,0,none⟩ ⟨g,(i+1)*2,none⟩ 1 1 lb cb hne 65 65 2 cur.size (by simp[World.shape?,show W.heap[J]? =_ from h1]) (by simp[World.shape?,show W.heap[g]? =_ from h2]) (by omega) (by simp[World.frozen?,show W.heap[J]? =_ from h1]) (by simp[World.frozen?,show W.heap[J]? =_ from h1])]
  rfl
 obtain⟨n,c⟩:∃n,n=l.length:=⟨_,rfl⟩;rw[<-c]at ht hn hl hi|-;have m:=λlb cb=>t w lb cb hJ hg
 have af:=Lh t;have Ht:=Lh (And.intro c (And.intro hs ht));have z1:¬((i:Int)=(n:Int)):=by omega
 have z2:¬((cap:Int)<(n:Int)+1):=by omega
 have z3:(i:Int)<=(n:Int):=by omega
 have z4:IntKind.i64.wrap ((i:Int)+1)=(i:Int)+1:=by rw[IntKind.wrap_i64];omega
 have z5:IntKind.i64.wrap ((n:Int)+1)=(n:Int)+1:=by rw[IntKind.wrap_i64];omega
 have z6:(0:Int)<=(i:Int)+1:=by omega
 have z7:((i:Int)+1).toNat=i+1:=by omega
 have z8:((n:Int)+1).toNat=n+1:=by omega
 have z9:(n:Int)+1<=(cap:Int):=by omega
 have y1:¬(cap=i):=by omega
 have y2:¬(cap=i+1):=by omega
 have y3:¬(cap=0):=by omega
 have y4:(i:Int)+1<=(n:Int)+1:=by omega
 have y5:(i:Int)<=(n:Int)+1:=by omega
 clear t c hs ht;go_enter Tryz.func131,Tryz.ntmps131
 go_wp2_with (simp only[m])
 obtain⟨S,d⟩:∃S,S=(λW=>(Row W g 65 cur/\Row W J 65 #[.int .i64 y.tag,.int .i64 y.n])/\Below w.heap.size w W):=⟨_,rfl⟩;have ah:St S:=by rw[d];infer_instance
 have TG:Hid (∀W,S W->Row W g 65 cur):=by show ∀W,_;rw[d];exact λW h=>h.1.1
 have TJ:Hid (∀W,S W->Row W J 65 #[.int .i64 y.tag,.int .i64 y.n]):=by show ∀W,_;rw[d];exact λW h=>h.1.2
 have TB:Hid (∀W,S W->Below w.heap.size w W):=by show ∀W,_;rw[d];exact λW h=>h.2
 have hS:S w:=by rw[d];exact⟨⟨hg,hJ⟩,Below.refl _ _⟩
 have ag:=hg.lt;clear d hg hJ m af;refine ZG S 8 (by kernel_rfl) (by kernel_rfl) (St.drew hS) ?_;clear hS;simp only[L0,LE,Lz,LA]
 iterate 8 (refine Qg rfl ?_ (λW q=>?_) ?_;rotate_left;(focus(go_simp;exact rfl));simp only[Act.put,Qa,Qb,Qc])
 refine Q4 λW q=>?_
 obtain⟨c,ad,x⟩:=Ht.out;have s:((l.drop i).flatMap Nd.cells).length=(n-i)*2:=by rw[Z7,LO,c]
 have o:∀j v,((l.drop i).flatMap Nd.cells)[j]? =some v->cur[i*2+j]? =some v:=by
  intro j v hj;have ai:=(La.1 hj).1;have ac:((l.take i).flatMap Nd.cells).length=i*2:=by rw[Z7,L1];congr 1;omega
  have e:(l.flatMap Nd.cells)[i*2+j]? =some v:=by
   rw[<-LF i l,L6,Lx (by omega),ac,Np];exact hj
  rw[<-x,LQ (by omega)]at e;simpa using e
 have ab:=λty dc sc=>KL (P:=Tryz.prog) W 23 23 ty 65 2 g ((i+1)*2) (n-i) dc ⟨g,i*2,none⟩ (n+1-i) sc cur 65 ((l.drop i).flatMap Nd.cells) Tryz.underlying23 (by kernel_rfl) (TG.out W q) (by rw[s];simp only[Nat.min_def];split<;>omega) (Row.from_ (TG.out W q) (i*2) o) (by omega) (Eb _)
 have r1:Row (W.setRow g (ZS cur ((i+1)*2) ((l.drop i).flatMap Nd.cells))) g 65 (ZS cur ((i+1)*2) ((l.drop i).flatMap Nd.cells)):=setRow_heap W g cur _ _ _ (TG.out W q);have o1:=ZN W g (ZS cur ((i+1)*2) ((l.drop i).flatMap Nd.cells));have z:=(TJ.out W q).only o1 hne;have b1:=Qp ((TB.out W q).mono (Nat.le_of_lt (N0 hB ag))) o1 hB;have u:=Ahb (cur:=cur) (l:=l) (n:=n) (i:=i) (cap:=cap) y c.symm ad hn (by omega) x
 have ae:(ZS cur ((i+1)*2) ((l.drop i).flatMap Nd.cells)).size=cap*2:=by
  unfold ZS;simp only[Lk,Le,L1,LO,LU,s];omega
 clear c ad x s o;refine Zm rfl _ (JO rfl (ab _ _ _)) ?_;generalize W.setRow g (ZS cur ((i+1)*2) ((l.drop i).flatMap Nd.cells))=W1 at r1 o1 z b1|-;generalize ZS cur ((i+1)*2) ((l.drop i).flatMap Nd.cells)=c1 at r1 u ae|-;have k:=λty dc=>KL (P:=Tryz.prog) W1 23 23 ty 65 2 g (i*2) (n+1-i) dc ⟨J,0,none⟩ 1 1 c1 65 y.cells Tryz.underlying23 (by kernel_rfl) r1 (by show 2=_;simp only[Nat.min_def];split<;>omega) (Row.from_ z 0 (λj v hj=>by rw[LG];simpa[Nd.cells]using hj)) (by show i*2+2<=_;omega) (by simp[Nd.cells,Value.oneCell'])
 have r2:Row (W1.setRow g (ZS c1 (i*2) y.cells)) g 65 (ZS c1 (i*2) y.cells):=setRow_heap W1 g c1 _ _ _ r1;have o2:=ZN W1 g (ZS c1 (i*2) y.cells);have b2:=Qp b1 o2 hB
 have p:(ZS c1 (i*2) y.cells).size=cap*2:=by
  unfold ZS;simp only[Lk,Le,L1,LO,LU,show y.cells.length=2 from rfl];omega
 have HF:=Lh (And.intro (show ∃cur',Row (W1.setRow g (ZS c1 (i*2) y.cells)) g 65 cur'/\cur'.size=cap*2/\cur'.toList.take ((n+1)*2)=(l.take i++y::l.drop i).flatMap Nd.cells from⟨_,r2,p,u⟩) b2);have aa:=Lh k;clear ab r1 o1 z b1 u ae r2 o2 b2 p k q ah TG TJ TB Ht;go_wp2_with (refine AfL _ _ _ _ rfl ?_)
 refine Stop.to ?_;refine Zm rfl _ (JO rfl (aa.out _ _)) ?_;go_wp2_with fail
 go_ret
 exact⟨rfl,HF.out.1,HF.out.2⟩
theorem Akz (z:Array Value)(k:Nat):(Builtin.zeroCells z k).size=k*z.size:=by simp[Builtin.zeroCells]
theorem AiM{R:Array Value}{l:List Nd}{n i G:Nat}(y:Nd)(hl:l.length=n)(hR:R.size=G*2)(hn:n+1<=G)(hi:i<=n)(ht:R.toList.take (i*2)=(l.take i).flatMap Nd.cells):
 (ZS (ZS R (i*2) y.cells) ((i+1)*2) ((l.drop i).flatMap Nd.cells)).toList.take ((n+1)*2)=(l.take i++y::l.drop i).flatMap Nd.cells/\(ZS (ZS R (i*2) y.cells) ((i+1)*2) ((l.drop i).flatMap Nd.cells)).size=G*2:=by
 have g:((l.drop i).flatMap Nd.cells).length=(n-i)*2:=by rw[Z7,LO,hl]
 have d:y.cells.length=2:=rfl;have c:R.toList.length=G*2:=by rw[LU,hR]
 have e:(R.toList.take (i*2)).length=i*2:=by rw[L1];omega
 constructor
 ·rw[L6,L8, <-ht];unfold ZS;simp only[List.toList_toArray];have j:(R.toList.take (i*2)++y.cells++R.toList.drop (i*2+y.cells.length)).take ((i+1)*2)=R.toList.take (i*2)++y.cells:=Nt (by rw[Le,e,d];omega);rw[j]
  have h:(R.toList.take (i*2)++y.cells++(l.drop i).flatMap Nd.cells).length=(n+1)*2:=by
   simp only[Le,e,g,d];omega
  rw[Nt h,Ly]
 ·unfold ZS;simp only[Lk,Le,L1,LO,g,d,c];omega
theorem Adq (g J i:Nat)(l:List Nd)(y:Nd)(cur:Array Value)(w:World)(hg:Row w g 65 cur)(hs:cur.size=l.length*2)(ht:cur.toList=l.flatMap Nd.cells)(hl:l.length<=1000)(hi:i<l.length)(hJ:Row w J 65 #[.int .i64 y.tag,.int .i64 y.n]):
 Calls Tryz.prog 131 #[.slice (some ⟨g,0,none⟩) l.length l.length,.int .i64 (i:Int),.slice (some ⟨J,0,none⟩) 1 1] w λe w'=>∃N G cur',e=.returned (.slice (some ⟨N,0,none⟩) (l.length+1) G)/\w.heap.size<=N/\l.length+1<=G/\G<=maxLen/\Row w' N 65 cur'/\cur'.size=G*2/\cur'.toList.take ((l.length+1)*2)=(l.take i++y::l.drop i).flatMap Nd.cells/\Below w.heap.size w w':=by
 obtain⟨n,p⟩:∃n,n=l.length:=⟨_,rfl⟩;rw[<-p]at hs hl hi|-;obtain⟨i0,al,ao,ap,ac⟩:=info_parts (P:=Tryz.prog) (e:=65) (z:=.agg #[.int .i64 0,.int .i64 0]) (size:=2) (bytes:=16) (by kernel_rfl);have c:((l.take i).flatMap Nd.cells).length=i*2:=by rw[Z7,L1];congr 1;omega
 have o:∀(j:Nat) (v:Value),((l.take i).flatMap Nd.cells)[j]? =some v->cur[j]? =some v:=by
  intro j v t;have av:=(La.1 t).1
  have e:(l.flatMap Nd.cells)[j]? =some v:=by
   rw[<-LF i l,L6,L3 (by omega)];exact t
  rw[<-ht]at e;simpa using e
 have ak:((l.drop i).flatMap Nd.cells).length=(n-i)*2:=by rw[Z7,LO,p]
 have x:∀(j:Nat) (v:Value),((l.drop i).flatMap Nd.cells)[j]? =some v->cur[i*2+j]? =some v:=by
  intro j v t
  have e:(l.flatMap Nd.cells)[i*2+j]? =some v:=by
   rw[<-LF i l,L6,Lx (by omega),c,Np];exact t
  rw[<-ht]at e;simpa using e
 have gD:Row w.drew g 65 cur:=(St.drew (S:=λW=>Row W g 65 cur) hg)
 have u:(Builtin.firstCells i0.size i (.slice (some ⟨g,0,none⟩) i n)).run Tryz.prog w.drew=.ok ((l.take i).flatMap Nd.cells).toArray w.drew:=by
  rw[ap];exact run_firstCells_some w.drew 2 i ⟨g,0,none⟩ i n _ c (Row.from_ (cur:=cur) gD 0 (λj v t=>by rw[LG];exact o j v t))
 obtain⟨G,hG⟩:∃G,G=grownCap w (n+1) n 65:=⟨_,rfl⟩;have ag:n+1<=G:=by rw[hG];exact grownCap_ge w _ _ _
 have af:G<=maxLen:=by rw[hG];exact grownCap_le_maxLen w (n+1) n _ (by unfold maxLen;omega)
 obtain⟨R,hR⟩:∃R:Array Value,R=((l.take i).flatMap Nd.cells).toArray++Builtin.zeroCells (Value.agg #[.int .i64 0,.int .i64 0]).cells (n+1-i)++Builtin.zeroCells (Value.agg #[.int .i64 0,.int .i64 0]).cells (G-(n+1)):=⟨_,rfl⟩
 have ah:R.size=G*2:=by
  rw[hR];simp only[Array.size_append,Lk,c,Akz,show(Value.agg #[.int .i64 0,.int .i64 0]).cells.size=2 from rfl];omega
 have ai:R.toList.take (i*2)=(l.take i).flatMap Nd.cells:=by
  rw[hR];simp only[Array.toList_append,Ly];exact Nt c
 have q:∀ty (k:Int),k=((n+1-i:Nat):Int)->(Builtin.append_ #[23,3] ty #[.slice (some ⟨g,0,none⟩) i n,.int .i64 k]).run Tryz.prog w=
  .ok (.slice (some ⟨w.heap.size,0,none⟩) (n+1) G) (w.drew.alloc (.cells R 65)):=λty k hk=>by
  have h:=Lib.run_append_grow_zeros w 23 3 ty 65 i0 _ .i64 .i64 Tryz.underlying23 Tryz.underlying3 al ao (some ⟨g,0,none⟩) i n _ u (n+1-i) (by omega) (by omega) (by omega) (by omega) (by rw[ac];omega) (by rw[ac,show i+(n+1-i)=n+1 by omega];exact growslice_fits (by omega) (by omega));rw[show i+(n+1-i)=n+1 by omega, <-hG, <-hR]at h;rw[hk];exact h
 have r0:Row (w.drew.alloc (.cells R 65)) w.heap.size 65 R:=Row.new w.drew 65 R;have bW:Below w.heap.size w (w.drew.alloc (.cells R 65)):=St.alloc (S:=λW=>Below w.heap.size w W) (St.drew (S:=λW=>Below w.heap.size w W) (Below.refl _ _)) _;have gW:Row (w.drew.alloc (.cells R 65)) g 65 cur:=hg.below bW hg.lt;have jW:Row (w.drew.alloc (.cells R 65)) J 65 #[.int .i64 y.tag,.int .i64 y.n]:=hJ.below bW hJ.lt;obtain⟨N,hN⟩:∃N,N=w.heap.size:=⟨_,rfl⟩;have aq:g≠N:=by have:=hg.lt;omega
 have au:J≠N:=by have:=hJ.lt;omega
 have m:w.heap.size<=N:=by omega
 rw[<-hN]at r0 q;generalize w.drew.alloc (.cells R 65)=W1 at q r0 bW gW jW;have ae:=Lh q;have ad:=Lh (And.intro af p);have Hs:=Lh x;have Hd:=Lh ak;have HR:=Lh (And.intro ah ai);clear hG hR ah ai u gD o c hs ht al ao ap ac hg hJ hN q x ak p af;have z1:¬((i:Int)=(n:Int)):=by omega
 have z2:(n:Int)<(n:Int)+1:=by omega
 have z3:(i:Int)<=(n:Int):=by omega
 have z4:IntKind.i64.wrap ((i:Int)+1)=(i:Int)+1:=by rw[IntKind.wrap_i64];omega
 have z5:IntKind.i64.wrap ((n:Int)+1)=(n:Int)+1:=by rw[IntKind.wrap_i64];omega
 have z9:IntKind.i64.wrap ((n:Int)+1-(i:Int))=(n:Int)+1-(i:Int):=by rw[IntKind.wrap_i64];omega
 have z6:(0:Int)<=(i:Int)+1:=by omega
 have z7:((i:Int)+1).toNat=i+1:=by omega
 have z8:((n:Int)+1).toNat=n+1:=by omega
 have y1:¬(G=i):=by omega
 have y2:¬(G=i+1):=by omega
 have y3:¬(n=i):=by omega
 have y4:(i:Int)+1<=(n:Int)+1:=by omega
 have y5:(i:Int)<=(n:Int)+1:=by omega
 go_enter Tryz.func131,Tryz.ntmps131
 go_wp2_with (first
  | (at_builtin;refine Lib.wpList_append_run _ rfl _ _ _ _ rfl _ _ rfl rfl _ _ (ae.out _ _ (by omega)) ?_)
  | (refine AfL _ _ _ _ rfl ?_))
 refine Stop.to ?_;have aj:=λty dc=>KL (P:=Tryz.prog) W1 23 23 ty 65 2 N (i*2) (n+1-i) dc ⟨J,0,none⟩ 1 1 R 65 y.cells Tryz.underlying23 (by kernel_rfl) r0 (by show 2=_;simp only[Nat.min_def];split<;>omega) (Row.from_ jW 0 (λj v t=>by rw[LG];simpa[Nd.cells]using t)) (by show i*2+2<=_;have:=HR.out.1;omega) (by simp[Nd.cells,Value.oneCell'])
 refine Zm rfl _ (JO rfl (aj _ _)) ?_;have r1:Row (W1.setRow N (ZS R (i*2) y.cells)) N 65 (ZS R (i*2) y.cells):=setRow_heap W1 N R _ _ _ r0;have o1:=ZN W1 N (ZS R (i*2) y.cells);have g1:=gW.only o1 aq;have b1:=Qp bW o1 m;have aa:=Lh (AiM (R:=R) (l:=l) (n:=n) (i:=i) (G:=G) y ad.out.2.symm HR.out.1 ag (by omega) HR.out.2)
 have an:(ZS R (i*2) y.cells).size=G*2:=by
  unfold ZS;simp only[Lk,Le,L1,LO,LU,show y.cells.length=2 from rfl];have:=HR.out.1;omega
 have ab:=Lh an;generalize W1.setRow N (ZS R (i*2) y.cells)=W2 at r1 o1 g1 b1|-;generalize ZS R (i*2) y.cells=c1 at r1 aa ab;obtain⟨S,d⟩:∃S,S=(λW=>(Row W N 65 c1/\Row W g 65 cur)/\Below w.heap.size w W):=⟨_,rfl⟩;have ar:St S:=by rw[d];infer_instance
 have TN:Hid (∀W,S W->Row W N 65 c1):=by show ∀W,_;rw[d];exact λW h=>h.1.1
 have TG:Hid (∀W,S W->Row W g 65 cur):=by show ∀W,_;rw[d];exact λW h=>h.1.2
 have TB:Hid (∀W,S W->Below w.heap.size w W):=by show ∀W,_;rw[d];exact λW h=>h.2
 have hS:S W2:=by rw[d];exact⟨⟨r1,g1⟩,b1⟩
 clear d r1 g1 b1 o1 aj an r0 bW gW jW ae HR;go_wp2_with fail
 refine ZG S 8 (by kernel_rfl) (by kernel_rfl) (St.drew hS) ?_;clear hS;simp only[L0,LE,Lz,LA]
 iterate 8 (refine Qg rfl ?_ (λW hW=>?_) ?_;rotate_left;(focus(go_simp;exact rfl));simp only[Act.put,Qa,Qb,Qc])
 refine Q4 λW hW=>?_
 have am:=Row.from_ (cur:=cur) (TG.out W hW) (i*2) Hs.out;have s:=λty dc sc=>KL (P:=Tryz.prog) W 23 23 ty 65 2 N ((i+1)*2) (n-i) dc ⟨g,i*2,none⟩ (n-i) sc c1 65 ((l.drop i).flatMap Nd.cells) Tryz.underlying23 (by kernel_rfl) (TN.out W hW) (by rw[Hd.out];simp only[Nat.min_def];split<;>omega) am (by rw[Hd.out,ab.out];omega) (Eb _)
 refine Zm rfl _ (JO rfl (s _ _ _)) ?_;have r2:Row (W.setRow N (ZS c1 ((i+1)*2) ((l.drop i).flatMap Nd.cells))) N 65 (ZS c1 ((i+1)*2) ((l.drop i).flatMap Nd.cells)):=setRow_heap W N c1 _ _ _ (TN.out W hW);have o2:=ZN W N (ZS c1 ((i+1)*2) ((l.drop i).flatMap Nd.cells));have b2:=Qp (TB.out W hW) o2 m;have HF:=Lh (And.intro r2 (And.intro aa.out b2));clear am s r2 o2 b2 hW TN TG TB ar Hs Hd aa ab;go_wp2_with fail
 go_ret
 exact⟨N,G,_,rfl,m,ag,ad.out.1,HF.out.1,HF.out.2.1.2,HF.out.2.1.1,HF.out.2.2⟩
theorem AhU (p:PgV)(q:Nat)(t:Tr)(w:World)(hat:At p.body q t)(hbl:p.body.length<=1000)(hok:p.ok w)(h:t.root.tag=21\/t.root.tag=22\/t.root.tag=23\/t.root.tag=24\/t.root.tag=25):
 Calls Tryz.prog 91 #[.agg (ZL p q 0)] w λe w'=>NdsR (p.body.take q++([⟨26,0⟩]++p.body.drop (q+t.size))) w w' e:=by
 have Hn:Hid (∀W,Below w.heap.size w W->Calls Tryz.prog 128 #[.agg (ZL p q 0)] W λe w'=>e=.returned (.agg #[.int .i64 t.root.tag,.int .i64 t.root.n])/\Below W.heap.size W w'):=λW b=>K7 p q 0 t.root W hat.root (hok.go b)
 have Hr:Hid (∀W,Below w.heap.size w W->∀G,Row W G 65 #[.int .i64 26,.int .i64 0]->Calls Tryz.prog 130 #[.slice p.ba p.body.length p.bcap,.int .i64 (q:Int),.slice (some ⟨G,0,none⟩) 1 1] W λe w'=>NdsR (p.body.take q++([⟨26,0⟩]++p.body.drop (q+t.size))) W w' e):=λW b G hG=>
  Age p.ba (some ⟨G,0,none⟩) p.bcap 1 p.body [⟨26,0⟩] q t W hat (hok.go b).brd (Jz (cs:=[.int .i64 26,.int .i64 0]) hG) (λe=>by cases e) hbl (by simp) hok.blen hok.bmax
 obtain⟨k,hk⟩:∃k,k=t.root.tag:=⟨_,rfl⟩;obtain⟨m,hm⟩:∃m,m=t.root.n:=⟨_,rfl⟩;obtain⟨r,hr⟩:∃r,r=p.body.take q++([⟨26,0⟩]++p.body.drop (q+t.size)):=⟨_,rfl⟩;rw[<-hk]at h;rw[<-hk, <-hm]at Hn;rw[<-hr]at Hr|-;have f0:=YW k m;clear hk hm hr hat hbl hok;go_enter Tryz.func91,Tryz.ntmps91
 go_wp2_with (refine Qq _ _ rfl ?_)
 refine Stop.to ?_;refine Qe rfl 148 _ rfl (ZL p q 0) rfl ?_;intro G Gw Gh Gr Gb;have b1:=(Below.refl w.heap.size w).trans (Gb.mono Gh);have Hc:=Lh (Hn.out _ b1);clear Gb Gh Hn;go_wp2_with (refine wpList_load_row rfl 148 _ rfl G rfl 148 (ZL p q 0) (0,0) _ Gr Tryz.underlying148 rfl (by kernel_rfl) ?_)
 refine Hc.out.mono ?_;rintro e w1 ⟨rfl,b2⟩;have aa:=Gr.below b2 Gr.lt;have b4:=b1.trans (b2.mono b1.size);have g2:=aa.cellv (i:=2) (v:=.slice p.ba p.body.length p.bcap) rfl;have g3:=aa.cellv (i:=3) (v:=.int .i64 q) rfl;have g4:=aa.cellv (i:=4) (v:=.int .i64 0) rfl;clear Gr b1 b2 Hc aa;rcases h with rfl|rfl|rfl|rfl|rfl
 all_goals
  go_wp2_with (refine ZJ _ _ _ rfl ?_)
  skip
 ·refine Stop.to ?_;refine QA rfl 23 1 _ rfl 65 #[.int .i64 26,.int .i64 0] (λW=>by kernel_rfl) ?_;intro J Jw o s l;have y:=(Below.refl w1.heap.size w1).trans (l.mono o);have j:=b4.trans (y.mono b4.size);have H:=Lh (Hr.out Jw j J s);clear s l o y Hr;go_wp2_with fail
  refine H.out.mono ?_;rintro e w3 ⟨v,rfl,c,u⟩;have x:=j.trans (u.mono j.size);have d:=QR c j.size;obtain⟨z,g⟩:∃z,z=(r).length:=⟨_,rfl⟩;rw[<-g]at d c;obtain⟨A3,c3,rfl⟩:=Zq c;have HF:=Lh d;have HN:=Lh g;have H4:=Lh x;clear c d g u x j H;go_wp2_with fail
  go_ret
  exact⟨_,rfl,by rw[<-HN.out];exact HF.out,H4.out⟩
 ·refine Stop.to ?_;refine QA rfl 23 1 _ rfl 65 #[.int .i64 26,.int .i64 0] (λW=>by kernel_rfl) ?_;intro J Jw o s l;have y:=(Below.refl w1.heap.size w1).trans (l.mono o);have j:=b4.trans (y.mono b4.size);have H:=Lh (Hr.out Jw j J s);clear s l o y Hr;go_wp2_with fail
  refine H.out.mono ?_;rintro e w3 ⟨v,rfl,c,u⟩;have x:=j.trans (u.mono j.size);have d:=QR c j.size;obtain⟨z,g⟩:∃z,z=(r).length:=⟨_,rfl⟩;rw[<-g]at d c;obtain⟨A3,c3,rfl⟩:=Zq c;have HF:=Lh d;have HN:=Lh g;have H4:=Lh x;clear c d g u x j H;go_wp2_with fail
  go_ret
  exact⟨_,rfl,by rw[<-HN.out];exact HF.out,H4.out⟩
 ·refine Stop.to ?_;refine QA rfl 23 1 _ rfl 65 #[.int .i64 26,.int .i64 0] (λW=>by kernel_rfl) ?_;intro J Jw o s l;have y:=(Below.refl w1.heap.size w1).trans (l.mono o);have j:=b4.trans (y.mono b4.size);have H:=Lh (Hr.out Jw j J s);clear s l o y Hr;go_wp2_with fail
  refine H.out.mono ?_;rintro e w3 ⟨v,rfl,c,u⟩;have x:=j.trans (u.mono j.size);have d:=QR c j.size;obtain⟨z,g⟩:∃z,z=(r).length:=⟨_,rfl⟩;rw[<-g]at d c;obtain⟨A3,c3,rfl⟩:=Zq c;have HF:=Lh d;have HN:=Lh g;have H4:=Lh x;clear c d g u x j H;go_wp2_with fail
  go_ret
  exact⟨_,rfl,by rw[<-HN.out];exact HF.out,H4.out⟩
 ·refine Stop.to ?_;refine QA rfl 23 1 _ rfl 65 #[.int .i64 26,.int .i64 0] (λW=>by kernel_rfl) ?_;intro J Jw o s l;have y:=(Below.refl w1.heap.size w1).trans (l.mono o);have j:=b4.trans (y.mono b4.size);have H:=Lh (Hr.out Jw j J s);clear s l o y Hr;go_wp2_with fail
  refine H.out.mono ?_;rintro e w3 ⟨v,rfl,c,u⟩;have x:=j.trans (u.mono j.size);have d:=QR c j.size;obtain⟨z,g⟩:∃z,z=(r).length:=⟨_,rfl⟩;rw[<-g]at d c;obtain⟨A3,c3,rfl⟩:=Zq c;have HF:=Lh d;have HN:=Lh g;have H4:=Lh x;clear c d g u x j H;go_wp2_with fail
  go_ret
  exact⟨_,rfl,by rw[<-HN.out];exact HF.out,H4.out⟩
 ·refine Stop.to ?_;refine QA rfl 23 1 _ rfl 65 #[.int .i64 26,.int .i64 0] (λW=>by kernel_rfl) ?_;intro J Jw o s l;have y:=(Below.refl w1.heap.size w1).trans (l.mono o);have j:=b4.trans (y.mono b4.size);have H:=Lh (Hr.out Jw j J s);clear s l o y Hr;go_wp2_with fail
  refine H.out.mono ?_;rintro e w3 ⟨v,rfl,c,u⟩;have x:=j.trans (u.mono j.size);have d:=QR c j.size;obtain⟨z,g⟩:∃z,z=(r).length:=⟨_,rfl⟩;rw[<-g]at d c;obtain⟨A3,c3,rfl⟩:=Zq c;have HF:=Lh d;have HN:=Lh g;have H4:=Lh x;clear c d g u x j H;go_wp2_with fail
  go_ret
  exact⟨_,rfl,by rw[<-HN.out];exact HF.out,H4.out⟩
theorem AhL (p:PgV)(q:Nat)(n:Int)(t c:Tr)(w:World)(hat:At p.body q t)(hac:At p.body (q+1) c)(hbl:p.body.length<=1000)(hok:p.ok w)(h:t.root.tag=25):
 Calls Tryz.prog 93 #[.agg (ZL p q n)] w λe w'=>NdsR (p.body.take (q+1)++([⟨1,n⟩]++p.body.drop (q+1+c.size))) w w' e:=by
 have u:Hid (∀W,Below w.heap.size w W->Calls Tryz.prog 128 #[.agg (ZL p q n)] W λe w'=>e=.returned (.agg #[.int .i64 25,.int .i64 t.root.n])/\Below W.heap.size W w'):=λW b=>by rw[<-h];exact K7 p q n t.root W hat.root (hok.go b)
 have x:Hid (∀W,Below w.heap.size w W->∀G,Row W G 65 #[.int .i64 1,.int .i64 n]->Calls Tryz.prog 130 #[.slice p.ba p.body.length p.bcap,.int .i64 ((q:Int)+1),.slice (some ⟨G,0,none⟩) 1 1] W λe w'=>NdsR (p.body.take (q+1)++([⟨1,n⟩]++p.body.drop (q+1+c.size))) W w' e):=λW b G hG=>
  Age p.ba (some ⟨G,0,none⟩) p.bcap 1 p.body [⟨1,n⟩] (q+1) c W hac (hok.go b).brd (Jz (cs:=[.int .i64 1,.int .i64 n]) hG) (λe=>by cases e) hbl (by simp) hok.blen hok.bmax
 obtain⟨m,hm⟩:∃m,m=t.root.n:=⟨_,rfl⟩;obtain⟨r,hr⟩:∃r,r=p.body.take (q+1)++([⟨1,n⟩]++p.body.drop (q+1+c.size)):=⟨_,rfl⟩;have aa:(q:Int)<=1000:=by have:=hat.lt;omega
 rw[<-hm]at u;rw[<-hr]at x|-;have f0:=YW 25 m;clear hm hr hat hac hbl hok h;go_enter Tryz.func93,Tryz.ntmps93
 go_wp2_with (refine Qq _ _ rfl ?_)
 refine Stop.to ?_;refine Qe rfl 148 _ rfl (ZL p q n) rfl ?_;intro G Gw Gh o z;have s:=(Below.refl w.heap.size w).trans (z.mono Gh);have Hc:=Lh (u.out _ s);clear z Gh u;go_wp2_with (refine wpList_load_row rfl 148 _ rfl G rfl 148 (ZL p q n) (0,0) _ o Tryz.underlying148 rfl (by kernel_rfl) ?_)
 refine Hc.out.mono ?_;rintro e w1 ⟨rfl,y⟩;have j:=o.below y o.lt;have b4:=s.trans (y.mono s.size);have g2:=j.cellv (i:=2) (v:=.slice p.ba p.body.length p.bcap) rfl;have g3:=j.cellv (i:=3) (v:=.int .i64 q) rfl;have g4:=j.cellv (i:=4) (v:=.int .i64 n) rfl;clear o s y Hc j;go_wp2_with (refine ZJ _ _ _ rfl ?_)
 refine Stop.to ?_;refine QA rfl 23 1 _ rfl 65 #[.int .i64 1,.int .i64 n] (λW=>by kernel_rfl) ?_;intro J Jw Jh Jr Jb;have bJ:=(Below.refl w1.heap.size w1).trans (Jb.mono Jh);have l:=b4.trans (bJ.mono b4.size);have H:=Lh (x.out Jw l J Jr);clear Jr Jb Jh bJ x;go_wp2_with fail
 refine H.out.mono ?_;rintro e w3 ⟨v,rfl,d,b6⟩;have b7:=l.trans (b6.mono l.size);have g:=QR d l.size;obtain⟨n3,k⟩:∃n3,n3=(r).length:=⟨_,rfl⟩;rw[<-k]at g d;obtain⟨A3,c3,rfl⟩:=Zq d;have HF:=Lh g;have HN:=Lh k;have H4:=Lh b7;clear d g k b6 b7 l H;go_wp2_with fail
 go_ret
 exact⟨_,rfl,by rw[<-HN.out];exact HF.out,H4.out⟩
end Go.Proofs.YtkoikjnlpifbjaaGreat
