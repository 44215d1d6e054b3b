/- Lemmas for ArAll. -/
import Derived.Test.YtgnmkiafeplbpaaGreatDoorZf1
import Derived.Test.YtgnmkiafeplbpaaGreatDoorZf32
import Derived.Test.YtgnmkiafeplbpaaGreatDoorZf9
import Derived.WalkSmall
set_option linter.unusedVariables false
set_option linter.unusedSimpArgs false
set_option maxRecDepth 100000
set_option maxHeartbeats 16000000
namespace Go.Proofs.YtgnmkiafeplbpaaGreatDoor
open Go.RowKit Go.Deep
theorem Vq{w:World}{i j:Nat}{t u:TypeId}{cs ds:Array Value}(r:Row w i t cs)(q:Row w j u ds)(h:t≠u):i≠j:=λe=>by
 subst e;have a:w.heap[i]? =some (.cells cs t (0,0)):=r;rw[show w.heap[i]? =some (.cells ds u (0,0))from q]at a;injection a with a;injection a with _ a;exact h a.symm
def erV (n:Int):Value:=.iface 34 (.int .i64 n)
theorem KR (n:Int)(w:World):Calls Tryz.prog 74 #[.bool true,.int .i64 n] w λe w'=>e=.returned (.tuple #[])/\w'=w:=by
 go_enter Tryz.func74,Tryz.ntmps74
 go_wp2
 go_end0
 exact⟨rfl,rfl⟩
theorem Kz (n:Int)(w:World):Calls Tryz.prog 74 #[.bool false,.int .i64 n] w λe w'=>e=.panicked [{ v:=erV n,recovered:=false }]/\w'=w:=by
 go_enter Tryz.func74,Tryz.ntmps74
 go_wp2
 exact⟨rfl,rfl,rfl⟩
theorem Akj (n:Int)(w:World):(Instr.typeAssert (erV n) 20 34 true).run Tryz.prog w=.ok (.tuple #[.int .i64 n,.bool true]) w:=by kernel_rfl
theorem Ag6 (w:World):(Instr.typeAssert .nilIface 20 34 true).run Tryz.prog w=.ok (.tuple #[.int .i64 0,.bool false]) w:=by kernel_rfl
structure But2 (g h:Nat)(w w':World):Prop where
 os:w'.os=w.os
 tape:w'.tape=w.tape
 output:w'.output=w.output
 size:w.heap.size<=w'.heap.size
 block:∀k,k<w.heap.size->k≠g->k≠h->w'.heap[k]? =w.heap[k]?
theorem But2.below{g h B:Nat}{w w':World}(b:But2 g h w w')(hg:B<=g)(hh:B<=h)(hs:B<=w.heap.size):Below B w w':=⟨b.os,b.tape,b.output,b.size,λk hk=>b.block k (by omega) (by omega) (by omega)⟩
theorem AcN (S E:Nat)(n m:Int)(v:Value)(older:List PanicEntry)(w:World)(hS:Row w S 9 #[v])(hE:Row w E 34 #[.int .i64 m]):
 CallsD Tryz.prog 91 #[.pointer (some ⟨S,0,none⟩),.pointer (some ⟨E,0,none⟩)] (.panicking ({ v:=erV n,recovered:=false }::older)) w λe u' w'=>
  e=.returned (.tuple #[])/\u'=.panicking ({ v:=erV n,recovered:=true }::older)/\Row w' S 9 #[.string ⟨#[]⟩]/\Row w' E 34 #[.int .i64 n]/\But2 S E w w':=by
 have d:=Akj n w;generalize erV n=ov at d|-;refine callsD_of_wpS Tryz.func91 rfl λj i p=>?_
 refine wpS_seq ?_;refine JL ?_;simp only[Tryz.ntmps91];simp only[Ly,Le,Ll,Nat.reduceAdd,Nat.reduceSub,Ln,Lp,Lz,Lu,Lk,LD];refine @Al4 _ _ _ _ _ _ _ _ rfl (by rfl) ov ({ j with mode:=.panicking ({ v:=ov,recovered:=true }::older) }::i) (by simp only[recoverD,p]) ?_;simp only[Act.put,Qa,Qb,Qc];refine @Q2 _ _ _ _ _ _ _ _ rfl ?_;refine @Qr _ _ _ _ w _ _ (.tuple #[.int .i64 n,.bool true]) ?_ ?_
 ·exact XC rfl (d)
 simp only[Act.put,Qa,Qb,Qc];refine @Q2 _ _ _ _ _ _ _ _ rfl ?_;refine @Qr _ _ _ _ w _ _ (.tuple #[.int .i64 n,.bool true]) ?_ ?_
 ·go_simp;try exact rfl
 simp only[Act.put,Qa,Qb,Qc];refine @Q2 _ _ _ _ _ _ _ _ rfl ?_;refine @Qr _ _ _ _ w _ _ (.int .i64 n) ?_ ?_
 ·go_simp;try exact rfl
 simp only[Act.put,Qa,Qb,Qc];refine @Q2 _ _ _ _ _ _ _ _ rfl ?_;refine @Qr _ _ _ _ w _ _ (.bool true) ?_ ?_
 ·go_simp;try exact rfl
 simp only[Act.put,Qa,Qb,Qc];refine @Q2 _ _ _ _ _ _ _ _ rfl ?_;refine @Qr _ _ _ _ w _ _ (.int .i64 n) ?_ ?_
 ·go_simp;try exact rfl
 simp only[Act.put,Qa,Qb,Qc];refine @Q2 _ _ _ _ _ _ _ _ rfl ?_;refine @Qr _ _ _ _ w _ _ (.bool true) ?_ ?_
 ·go_simp;try exact rfl
 simp only[Act.put,Qa,Qb,Qc];show Code.wpS _ _ _ _ _ _;refine wpS_seq ?_;refine JL ?_;refine @Q2 _ _ _ _ _ _ _ _ rfl ?_;refine @Qr _ _ _ _ w _ _ (.bool true) ?_ ?_
 ·go_simp;try exact rfl
 simp only[Act.put,Qa,Qb,Qc];show Code.wpS _ _ _ _ _ _;refine wpS_cond (t:=true) rfl ?_;simp only[if_true];refine JL ?_;refine @Q2 _ _ _ _ _ _ _ _ rfl ?_;refine @Qr _ _ _ _ w _ _ (.int .i64 n) ?_ ?_
 ·go_simp;try exact rfl
 simp only[Act.put,Qa,Qb,Qc];have c:=Vq hS hE (by decide);refine @Q2 _ _ _ _ _ _ _ _ rfl ?_;refine @Jk _ _ _ _ _ _ 9 (.tmp 0) (.const (.string ⟨#[]⟩)) rfl S 0 rfl (.string ⟨#[]⟩) rfl [(.string ⟨#[]⟩)] rfl 9 #[v] #[(.string ⟨#[]⟩)] hS (by kernel_rfl) (by simp) (by simp[Value.oneCell']) rfl (λu q a=>?_);simp only[Act.put];have g:=Row.only hE a c.symm;refine @Q2 _ _ _ _ _ _ _ _ rfl ?_;refine @Jk _ _ _ _ _ _ 34 (.tmp 1) (.tmp 10) rfl E 0 rfl (.int .i64 n) rfl [.int .i64 n] rfl 34 #[.int .i64 m] #[.int .i64 n] g (by kernel_rfl) (by simp) (by simp[Value.oneCell']) rfl (λx s b=>?_);simp only[Act.put];have h:=Row.only q b c;refine⟨rfl,_,rfl,.tuple #[],by simp[results,Tryz.results91],rfl,rfl,h,s,⟨by rw[b.os,a.os],by rw[b.tape,a.tape],by rw[b.output,a.output],by rw[b.size,a.size];exact Nat.le_refl _,λk _ l o=>(b.block k o).trans (a.block k l)⟩⟩
theorem Abn (S E:Nat)(w:World):
 CallsD Tryz.prog 91 #[.pointer (some ⟨S,0,none⟩),.pointer (some ⟨E,0,none⟩)] .returning w λe u' w'=>e=.returned (.tuple #[])/\u'=.returning/\w'=w:=by
 have a:=Ag6 w;refine callsD_of_wpS Tryz.func91 rfl λb d c=>?_
 refine wpS_seq ?_;refine JL ?_;simp only[Tryz.ntmps91];simp only[Ly,Le,Ll,Nat.reduceAdd,Nat.reduceSub,Ln,Lp,Lz,Lu,Lk,LD];refine @AdI _ _ _ _ _ _ _ _ rfl (by rfl) (by simp only[recoverD,c]) ?_;simp only[Act.put,Qa,Qb,Qc];generalize Value.nilIface=ov at a|-;refine @Q2 _ _ _ _ _ _ _ _ rfl ?_;refine @Qr _ _ _ _ w _ _ (.tuple #[.int .i64 0,.bool false]) ?_ ?_
 ·exact XC rfl (a)
 simp only[Act.put,Qa,Qb,Qc];refine @Q2 _ _ _ _ _ _ _ _ rfl ?_;refine @Qr _ _ _ _ w _ _ (.tuple #[.int .i64 0,.bool false]) ?_ ?_
 ·go_simp;try exact rfl
 simp only[Act.put,Qa,Qb,Qc];refine @Q2 _ _ _ _ _ _ _ _ rfl ?_;refine @Qr _ _ _ _ w _ _ (.int .i64 0) ?_ ?_
 ·go_simp;try exact rfl
 simp only[Act.put,Qa,Qb,Qc];refine @Q2 _ _ _ _ _ _ _ _ rfl ?_;refine @Qr _ _ _ _ w _ _ (.bool false) ?_ ?_
 ·go_simp;try exact rfl
 simp only[Act.put,Qa,Qb,Qc];refine @Q2 _ _ _ _ _ _ _ _ rfl ?_;refine @Qr _ _ _ _ w _ _ (.int .i64 0) ?_ ?_
 ·go_simp;try exact rfl
 simp only[Act.put,Qa,Qb,Qc];refine @Q2 _ _ _ _ _ _ _ _ rfl ?_;refine @Qr _ _ _ _ w _ _ (.bool false) ?_ ?_
 ·go_simp;try exact rfl
 simp only[Act.put,Qa,Qb,Qc];show Code.wpS _ _ _ _ _ _;refine wpS_seq ?_;refine JL ?_;refine @Q2 _ _ _ _ _ _ _ _ rfl ?_;refine @Qr _ _ _ _ w _ _ (.bool false) ?_ ?_
 ·go_simp;try exact rfl
 simp only[Act.put,Qa,Qb,Qc];show Code.wpS _ _ _ _ _ _;refine wpS_cond (t:=false) rfl ?_;simp only[Bool.false_eq_true,if_false];refine wpS_of_wp (wp_skip ?_);refine⟨rfl,.returning,?_,.tuple #[],by simp[results,Tryz.results91],rfl,rfl,rfl⟩;cases b;simp_all
theorem J0 (S E:Nat)(n m:Int)(v:Value)(older:List PanicEntry)(w:World)(hS:Row w S 43 #[v])(hE:Row w E 34 #[.int .i64 m]):
 CallsD Tryz.prog 73 #[.pointer (some ⟨S,0,none⟩),.pointer (some ⟨E,0,none⟩)] (.panicking ({ v:=erV n,recovered:=false }::older)) w λe u' w'=>
  e=.returned (.tuple #[])/\u'=.panicking ({ v:=erV n,recovered:=true }::older)/\Row w' S 43 #[.slice none 0 0]/\Row w' E 34 #[.int .i64 n]/\But2 S E w w':=by
 have d:=Akj n w;generalize erV n=ov at d|-;refine callsD_of_wpS Tryz.func73 rfl λj i p=>?_
 refine wpS_seq ?_;refine JL ?_;simp only[Tryz.ntmps73];simp only[Ly,Le,Ll,Nat.reduceAdd,Nat.reduceSub,Ln,Lp,Lz,Lu,Lk,LD];refine @Al4 _ _ _ _ _ _ _ _ rfl (by rfl) ov ({ j with mode:=.panicking ({ v:=ov,recovered:=true }::older) }::i) (by simp only[recoverD,p]) ?_;simp only[Act.put,Qa,Qb,Qc];refine @Q2 _ _ _ _ _ _ _ _ rfl ?_;refine @Qr _ _ _ _ w _ _ (.tuple #[.int .i64 n,.bool true]) ?_ ?_
 ·exact XC rfl (d)
 simp only[Act.put,Qa,Qb,Qc];refine @Q2 _ _ _ _ _ _ _ _ rfl ?_;refine @Qr _ _ _ _ w _ _ (.tuple #[.int .i64 n,.bool true]) ?_ ?_
 ·go_simp;try exact rfl
 simp only[Act.put,Qa,Qb,Qc];refine @Q2 _ _ _ _ _ _ _ _ rfl ?_;refine @Qr _ _ _ _ w _ _ (.int .i64 n) ?_ ?_
 ·go_simp;try exact rfl
 simp only[Act.put,Qa,Qb,Qc];refine @Q2 _ _ _ _ _ _ _ _ rfl ?_;refine @Qr _ _ _ _ w _ _ (.bool true) ?_ ?_
 ·go_simp;try exact rfl
 simp only[Act.put,Qa,Qb,Qc];refine @Q2 _ _ _ _ _ _ _ _ rfl ?_;refine @Qr _ _ _ _ w _ _ (.int .i64 n) ?_ ?_
 ·go_simp;try exact rfl
 simp only[Act.put,Qa,Qb,Qc];refine @Q2 _ _ _ _ _ _ _ _ rfl ?_;refine @Qr _ _ _ _ w _ _ (.bool true) ?_ ?_
 ·go_simp;try exact rfl
 simp only[Act.put,Qa,Qb,Qc];show Code.wpS _ _ _ _ _ _;refine wpS_seq ?_;refine JL ?_;refine @Q2 _ _ _ _ _ _ _ _ rfl ?_;refine @Qr _ _ _ _ w _ _ (.bool true) ?_ ?_
 ·go_simp;try exact rfl
 simp only[Act.put,Qa,Qb,Qc];show Code.wpS _ _ _ _ _ _;refine wpS_cond (t:=true) rfl ?_;simp only[if_true];refine JL ?_;refine @Q2 _ _ _ _ _ _ _ _ rfl ?_;refine @Qr _ _ _ _ w _ _ (.int .i64 n) ?_ ?_
 ·go_simp;try exact rfl
 simp only[Act.put,Qa,Qb,Qc];have c:=Vq hS hE (by decide);refine @Q2 _ _ _ _ _ _ _ _ rfl ?_;refine @Jk _ _ _ _ _ _ 43 (.tmp 0) (.const (.slice none 0 0)) rfl S 0 rfl (.slice none 0 0) rfl [(.slice none 0 0)] rfl 43 #[v] #[(.slice none 0 0)] hS (by kernel_rfl) (by simp) (by simp[Value.oneCell']) rfl (λu q a=>?_);simp only[Act.put];have g:=Row.only hE a c.symm;refine @Q2 _ _ _ _ _ _ _ _ rfl ?_;refine @Jk _ _ _ _ _ _ 34 (.tmp 1) (.tmp 10) rfl E 0 rfl (.int .i64 n) rfl [.int .i64 n] rfl 34 #[.int .i64 m] #[.int .i64 n] g (by kernel_rfl) (by simp) (by simp[Value.oneCell']) rfl (λx s b=>?_);simp only[Act.put];have h:=Row.only q b c;refine⟨rfl,_,rfl,.tuple #[],by simp[results,Tryz.results73],rfl,rfl,h,s,⟨by rw[b.os,a.os],by rw[b.tape,a.tape],by rw[b.output,a.output],by rw[b.size,a.size];exact Nat.le_refl _,λk _ l o=>(b.block k o).trans (a.block k l)⟩⟩
theorem AjM (S E:Nat)(w:World):
 CallsD Tryz.prog 73 #[.pointer (some ⟨S,0,none⟩),.pointer (some ⟨E,0,none⟩)] .returning w λe u' w'=>e=.returned (.tuple #[])/\u'=.returning/\w'=w:=by
 have a:=Ag6 w;refine callsD_of_wpS Tryz.func73 rfl λb d c=>?_
 refine wpS_seq ?_;refine JL ?_;simp only[Tryz.ntmps73];simp only[Ly,Le,Ll,Nat.reduceAdd,Nat.reduceSub,Ln,Lp,Lz,Lu,Lk,LD];refine @AdI _ _ _ _ _ _ _ _ rfl (by rfl) (by simp only[recoverD,c]) ?_;simp only[Act.put,Qa,Qb,Qc];generalize Value.nilIface=ov at a|-;refine @Q2 _ _ _ _ _ _ _ _ rfl ?_;refine @Qr _ _ _ _ w _ _ (.tuple #[.int .i64 0,.bool false]) ?_ ?_
 ·exact XC rfl (a)
 simp only[Act.put,Qa,Qb,Qc];refine @Q2 _ _ _ _ _ _ _ _ rfl ?_;refine @Qr _ _ _ _ w _ _ (.tuple #[.int .i64 0,.bool false]) ?_ ?_
 ·go_simp;try exact rfl
 simp only[Act.put,Qa,Qb,Qc];refine @Q2 _ _ _ _ _ _ _ _ rfl ?_;refine @Qr _ _ _ _ w _ _ (.int .i64 0) ?_ ?_
 ·go_simp;try exact rfl
 simp only[Act.put,Qa,Qb,Qc];refine @Q2 _ _ _ _ _ _ _ _ rfl ?_;refine @Qr _ _ _ _ w _ _ (.bool false) ?_ ?_
 ·go_simp;try exact rfl
 simp only[Act.put,Qa,Qb,Qc];refine @Q2 _ _ _ _ _ _ _ _ rfl ?_;refine @Qr _ _ _ _ w _ _ (.int .i64 0) ?_ ?_
 ·go_simp;try exact rfl
 simp only[Act.put,Qa,Qb,Qc];refine @Q2 _ _ _ _ _ _ _ _ rfl ?_;refine @Qr _ _ _ _ w _ _ (.bool false) ?_ ?_
 ·go_simp;try exact rfl
 simp only[Act.put,Qa,Qb,Qc];show Code.wpS _ _ _ _ _ _;refine wpS_seq ?_;refine JL ?_;refine @Q2 _ _ _ _ _ _ _ _ rfl ?_;refine @Qr _ _ _ _ w _ _ (.bool false) ?_ ?_
 ·go_simp;try exact rfl
 simp only[Act.put,Qa,Qb,Qc];show Code.wpS _ _ _ _ _ _;refine wpS_cond (t:=false) rfl ?_;simp only[Bool.false_eq_true,if_false];refine wpS_of_wp (wp_skip ?_);refine⟨rfl,.returning,?_,.tuple #[],by simp[results,Tryz.results73],rfl,rfl,rfl⟩;cases b;simp_all
attribute [local go_sem] Oper.semAt_some
theorem VO{F:Fence}{n:Nat}{P:Program}{ops:Array Oper}{rest:List Oper}{o:Oper}{a:Act}{w:World}{Q:Exit->Act->World->Prop}(ty:TypeId)(p x:Operand)(_:o.op=.store ty p x)(h:Stop (wpListIn F n P ops Q (o::rest) a w) id):wpListIn F n P ops Q (o::rest) a w:=h.out
structure PlX where
 i:Nat
 x:Sec
def PlX.enc (y:PlX):Array Value:=#[.int .i64 (y.i:Int),.agg (QO y.x)]
def plZ:Nat->List Sec->List PlX
 |_,[]=>[]
 |a,x::l=>⟨a,x⟩::plZ (a+ZD x) l
theorem Uh:∀(a:Nat) (l:List Sec),(plZ a l).length=l.length
 |_,[]=>rfl
 |a,x::l=>by rw[plZ,Le,Le,Uh]
theorem Agc:∀{a:Nat} {l:List Sec} {k:Nat} {x:Sec},l[k]? =some x->(plZ a l)[k]? =some ⟨a+(Qq (l.take k)).length,x⟩
 |a,[],k,x,h=>by simp at h
 |a,y::l,0,x,h=>by
  simp at h
  subst h
  rfl
 |a,y::l,k+1,x,h=>by
  rw[plZ,LU,Agc (by simpa using h),LY]
  unfold Qq
  rw[LF,La,Ua]
  simp[Nn]
theorem J8 (l:List Sec)(k:Nat):(Qq (l.take k)).length<=(Qq l).length:=by
 have e:Qq l=Qq (l.take k)++Qq (l.drop k):=by unfold Qq;rw[<-LM,LC]
 rw[e,La];omega
theorem Y9{l:List Sec}{k:Nat}{x:Sec}(h:l[k]? =some x):(Qq (l.take (k+1))).length=(Qq (l.take k)).length+ZD x:=by
 rw[ZE h];unfold Qq;rw[LM,La,LF,List.flatMap_nil,LT,Ua]
structure SecOk (l:List Sec):Prop where
 ty:∀x∈l,0<=x.t/\x.t<=255
 dl:∀x∈l,x.d.length<=900000
 n:l.length<=1000000
 sum:(Qq l).length<=1000000000
def SKeep (A B:World):Prop:=∀(i:Nat) cs,Row A i 48 cs->Row B i 48 cs
theorem SKeep.trans{A B C:World}(h:SKeep A B)(k:SKeep B C):SKeep A C:=λi cs r=>k i cs (h i cs r)
theorem SKeep.below{A B:World}(b:Below A.heap.size A B):SKeep A B:=λ_ _ r=>r.below b r.lt
structure SecsC (A:Option Addr)(cap:Nat)(l:List Sec)(X:Nat->Prop)(bt:Nat)(W:World):Prop where
 rd:Rd W A (Zy l)
 xr:Zy l≠[]->∀ad,A=some ad->¬X ad.block
 row:Row W bt 43 #[.slice A l.length cap]
 xb:¬X bt
section
variable {A:Option Addr} {cap:Nat} {l:List Sec} {X:Nat->Prop} {bt lb:Nat} {W W':World}
theorem SecsC.kx (h:SecsC A cap l X bt W)(k:KpX X W W'):SecsC A cap l X bt W':=⟨k.rd h.rd h.xr,h.xr,k.row h.row h.xb,h.xb⟩
theorem SecsC.add (h:SecsC A cap l X bt W)(b:Below W.heap.size W W')(h1:W.heap.size<=lb):SecsC A cap l (λi=>X i\/i=lb) bt W':=by
 have g:=h.kx (KpX.of_below b);refine⟨g.rd,λd a e=>?_,g.row,?_⟩
 ·have:=X3 h.rd d e;rintro(c|c)
  ·exact h.xr d a e c
  ·omega
 ·rintro(c|c)
  ·exact h.xb c
  ·have:=h.row.lt;omega
end
theorem Vb (A:Option Addr)(cap:Nat)(l:List Sec)(hl:SecOk l)(X:Nat->Prop)(bt:Nat)(w:World)(hC:SecsC A cap l X bt w):
 Aae Tryz.prog 210 #[.pointer (some ⟨bt,0,none⟩)] PlX.enc (λ_=>False) (λlb A B=>KpX (λi=>X i\/i=lb) A B/\SKeep A B) (λpre y _=>pre++[y]=(plZ 7 l).take (pre.length+1)) (λxs=>xs=plZ 7 l) (λ_=>True) l.length True w:=by
 intro lb J Jx W an g _ hJ a0 hY h0;have aj:Below w.heap.size w W:=⟨g.os,g.tape,g.output,g.size,λk hk=>g.block k hk (by simp)⟩;have j:=hC.add aj an.1;clear hC g;have s:∀pre (y:PlX) W1,J pre W1->pre++[y]=(plZ 7 l).take (pre.length+1)->pre.length<l.length->YieldAt Fence.wide 0 Tryz.prog lb #[.int .i64 (y.i:Int),.agg (QO y.x)] W1 λe p=>(e=.returned (.bool true)/\J (pre++[y]) p/\KpX (λi=>X i\/i=lb) W1 p/\SKeep W1 p)\/(e=.returned (.bool false)/\Jx (pre++[y]) p/\KpX (λi=>X i\/i=lb) W1 p/\SKeep W1 p):=hY;clear hY;generalize (λi=>X i\/i=lb)=X1 at j s;obtain⟨N,hN⟩:∃N,N=l.length:=⟨_,rfl⟩;have a1:(N:Int)<=1000000:=by have:=hl.n;omega
 have HN:=Lv hN;have HC:=Lv j;have HJ:=Lv hJ;have HY:=Lv s;have Hl:=Lv hl;have c1:=j.row.cellv (i:=0) (v:=.slice A l.length cap) rfl;rw[<-hN]at c1;clear hN j hJ s hl an aj w;refine callsIn_of_wp Tryz.func210 rfl trivial ?_ rfl;simp only[Tryz.ntmps210,Ly,Le,Ll,Nat.reduceAdd,Nat.reduceSub,Ln,Lp,Lz,LD,Lu,Lk];gi_wp2_with fail
 gi_loopw [3,8] (λa i wr=>∃(k b:Nat),i=.int .i64 (k:Int)/\k<=N/\a=.int .i64 (b:Int)/\Hid (b=7+(Qq (l.take k)).length)/\Hid (SecsC A cap l X1 bt wr)/\J ((plZ 7 l).take k) wr) (λ_ i _=>N-(intOf i).toNat)
 case atStart=>exact⟨0,7,by simp,Nat.zero_le _,rfl,Lv rfl,HC,h0⟩
 case round=>
  clear h0 c1 HC;obtain⟨k,b,rfl,a4,rfl,ag,HC,z⟩:=hrel;by_cases ax:k<N;rotate_left
  ·obtain rfl:k=N:=by omega
   have u:(plZ 7 l).take k=plZ 7 l:=Lm (by rw[Uh,HN.out];exact Nat.le_refl _);rw[u]at z;gi_wp2_with fail
   go_end0
   exact⟨⟨_,rfl⟩,.inl ⟨_,rfl,z⟩⟩
  obtain⟨x,hx⟩:∃x,l[k]? =some x:=⟨_,Ld (by have:=HN.out;omega)⟩;obtain⟨ad,ar,ak⟩:=Yl HC.out.rd hx;subst ar;have ab:=Li hx;have a3:(k:Int)<(N:Int):=by omega
  have a2:(0:Int)<=(k:Int):=by omega
  have q:=Lv (λW=>Ul x W (Hl.out.ty x ab) (Hl.out.dl x ab));have c:Hid (b+ZD x=7+(Qq (l.take (k+1))).length):=by show _=_;rw[Y9 hx, <-Nn, <-ag.out]
  have aw:b+ZD x<=1000000007:=by have h1:=J8 l (k+1);have h2:=Hl.out.sum;have h3:=c.out;omega
  have Hp:Hid ((plZ 7 l).take k++[(⟨b,x⟩:PlX)]=(plZ 7 l).take (k+1)):=by show _=_;rw[L5,Agc hx, <-ag.out];rfl
  obtain⟨n,hn⟩:∃n,n=ZD x:=⟨_,rfl⟩;rw[<-hn]at q c aw;have az:IntKind.i64.wrap ((b:Int)+(n:Int))=((b+n:Nat):Int):=(IntWalk.i64_in _ (by omega)).trans (by omega);obtain⟨t,d⟩:=x;clear hx ab hn;gi_wp2_with (first| (refine ZW rfl 48 _ rfl (ad.add (k*2)) rfl (QO ⟨t,d⟩).toList _ ak Tryz.underlying48 rfl (by kernel_rfl) ?_)| (refine VO _ _ _ rfl ?_))
  refine Stop.to ?_;obtain⟨D,hD⟩:∃D,D=wr.heap.size:=⟨_,rfl⟩;obtain⟨w3,m⟩:∃w3,w3=wr.alloc (.cells #[.int .i64 0,.string ⟨#[]⟩] 48):=⟨_,rfl⟩;have ac:Row w3 D 48 #[.int .i64 0,.string ⟨#[]⟩]:=by rw[m,hD];exact Row.new _ _ _
  have b3:Below wr.heap.size wr w3:=by rw[m];exact(Below.refl _ _).alloc (Nat.le_refl _) _
  rw[<-m, <-hD];have ai:wr.heap.size<=D:=LI hD.symm;clear m hD ak;refine Zz rfl 48 _ _ rfl D (QO ⟨t,d⟩) rfl rfl 48 _ ac (by kernel_rfl) rfl (by simp[QO,Value.oneCell']) ?_;have o:=ac.setRow (QO ⟨t,d⟩);have b4:Below wr.heap.size wr (w3.setRow D (QO ⟨t,d⟩)):=Ql b3 (ZY _ _ _) ai;generalize w3.setRow D (QO ⟨t,d⟩)=w4 at o b4|-;have aa:((plZ 7 l).take k).length=k:=by rw[LH,Uh, <-HN.out];omega
  have hP:(plZ 7 l).take k++[(⟨b,⟨t,d⟩⟩:PlX)]=(plZ 7 l).take (((plZ 7 l).take k).length+1):=by rw[aa];exact Hp.out
  have al:=QI HJ.out z b4;obtain⟨fn,ap,h,ah,hy,hR⟩:=HY.out _ ⟨b,⟨t,d⟩⟩ _ al hP (by rw[aa, <-HN.out];exact ax);rw[Hp.out]at hR;have HR:=Lv hR;have ae:=Lv (HC.out.kx (KpX.of_below b4));have ay:(Instr.yield lb #[.int .i64 (b:Int),.agg (QO ⟨t,d⟩)]).run Tryz.prog w4=.ok (.round lb fn ap h ah) w4:=hy;have R4:=Lv o;clear hP al z hR b4 ac b3 ai hy aa HC;gi_wp2_with (refine Kg rfl 48 _ rfl D rfl 48 (QO ⟨t,d⟩) (0,0) _ o Tryz.underlying48 rfl (by kernel_rfl) ?_);refine⟨rfl,HR.out.mono ?_⟩;clear ay HR o;rintro e p (⟨rfl,z,am,ao⟩|⟨rfl,av, -⟩);rotate_left
  ·gi_wp2_with fail
   refine bodyPost_ret (results_none rfl _ _ _) rfl ?_;exact⟨⟨_,rfl⟩,.inr ⟨_,trivial,av⟩⟩
  have af:=Lv (ae.out.kx am);have R7:=ao _ _ R4.out;clear ae am ao R4;gi_wp2_with (refine Kg rfl 48 _ rfl D rfl 48 (QO ⟨t,d⟩) (0,0) _ R7 Tryz.underlying48 rfl (by kernel_rfl) ?_);refine⟨trivial,rfl,(callsIn_wide.2 (q.out p)).mono ?_⟩;rintro e W8 ⟨rfl,b8⟩;have aq:=Lv (af.out.kx (KpX.of_below b8));have au:=QI HJ.out z b8;clear R7 af z b8 q;gi_wp2_with fail
  go_roundw
  case rel=>exact⟨k+1,b+n,by go_num,by omega,rfl,c,aq,au⟩
  case measure=>simp[intOf];omega
theorem Vc (A:Option Addr)(n cap:Nat)(w:World):
 Calls Tryz.prog 153 #[.slice A n cap] w λe w'=>∃bt,e=.returned (.func (.func 210) #[] #[.pointer (some ⟨bt,0,none⟩)])/\Row w' bt 43 #[.slice A n cap]/\w.heap.size<=bt/\Below w.heap.size w w':=by
 go_enter Tryz.func153,Tryz.ntmps153
 go_wp2_with (refine Qx _ _ rfl ?_)
 refine Stop.to ?_;refine Qf rfl 43 _ rfl #[.slice A n cap] rfl ?_;intro J g b c a;have d:=a.mono b;clear a;go_wp2
 go_ret
 exact⟨J,rfl,c,b,d⟩
end Go.Proofs.YtgnmkiafeplbpaaGreatDoor
namespace Go.Proofs.YtgnmkiafeplbpaaGreatDoor
open Go.RowKit Go.Deep
attribute [local go_sem] Oper.semAt_some
def Ez (s:List UInt8):Bool:=decide (4<=s.length/\Zn (s.take (s.length-4))=s.drop (s.length-4))
theorem Ai5 (s:List UInt8)(w:World)(hs:s.length<=2000000):
 Calls Tryz.prog 152 #[.string ⟨s.toArray⟩] w λe w'=>e=.returned (.bool (Ez s))/\Below w.heap.size w w':=by
 refine(Ad3 s w hs).mono ?_;rintro e w' ⟨⟨b,a,rfl⟩,h⟩;refine⟨?_,h⟩;have c:Aeh s<->4<=s.length/\Zn (s.take (s.length-4))=s.drop (s.length-4):=Iff.rfl
 have:b=Ez s:=by
  unfold Ez;rw[Bool.eq_iff_iff,a,c,decide_eq_true_iff]
 rw[this]
theorem Ai9 (C K g:Nat)(s:List UInt8)(x:CutS)(hp:x.r.pl<=s.length)(hs:s.length<=900000)(w:World)(h:CutO w C K g s x):
 Calls Tryz.prog 151 #[.pointer (some ⟨C,0,none⟩)] w λe w'=>e=.returned (.int .i64 (if Ez (s.take x.r.pl)then 0 else 6))/\Below w.heap.size w w':=by
 have l:=Lv (λW h=>YR g s x.r W h);have u:(⟨s.toArray⟩:ByteArray).size=s.length:=by simp[ByteArray.size]
 obtain⟨p,j⟩:∃p,p=x.r.pl:=⟨_,rfl⟩;rw[<-j]at l hp|-;have m:=Lv (λW=>Ai5 (s.take p) W (by rw[LH];omega));obtain⟨b,o⟩:∃b,b=Ez (s.take p):=⟨_,rfl⟩;rw[<-o]at m|-;have z:(⟨s.toArray⟩:ByteArray).extract 0 p=⟨(s.take p).toArray⟩:=by rw[KV];simp
 have q:(0:Int)<=(p:Int):=by omega
 have t:(p:Int)<=(s.length:Int):=by omega
 clear j o hp hs;go_enter Tryz.func151,Tryz.ntmps151
 go_wp2_with fail
 refine QG (λW=>CutO W C K g s x/\Below w.heap.size w W) (by kernel_rfl) (by kernel_rfl) (St.drew (S:=λW=>CutO W C K g s x/\Below w.heap.size w W) ⟨h,Below.refl _ _⟩) ?_;clear h;(refine Qe rfl ?_ (λW a=>?_) ?_;rotate_left;(focus(have c:=a.1.c.cellv (i:=0) (v:=.pointer (some ⟨K,0,none⟩)) rfl;go_simp;exact rfl));simp only[Act.put,Qa,Qb,Qc])
 iterate 2 (refine Qe rfl ?_ (λW a=>?_) ?_;rotate_left;(focus(go_simp;exact rfl));simp only[Act.put,Qa,Qb,Qc])
 (refine Qe rfl ?_ (λW a=>?_) ?_;rotate_left;(focus(have c:=a.1.k.cellv (i:=1) (v:=.string ⟨s.toArray⟩) rfl;go_simp;exact rfl));simp only[Act.put,Qa,Qb,Qc]);(refine Qe rfl ?_ (λW a=>?_) ?_;rotate_left;(focus(have c:=a.1.c.cellv (i:=0) (v:=.pointer (some ⟨K,0,none⟩)) rfl;go_simp;exact rfl));simp only[Act.put,Qa,Qb,Qc])
 iterate 2 (refine Qe rfl ?_ (λW a=>?_) ?_;rotate_left;(focus(go_simp;exact rfl));simp only[Act.put,Qa,Qb,Qc])
 (refine Qe rfl ?_ (λW a=>?_) ?_;rotate_left;(focus(have c:=a.1.k.cellv (i:=0) (v:=.pointer (some ⟨g,0,none⟩)) rfl;go_simp;exact rfl));simp only[Act.put,Qa,Qb,Qc])
 iterate 2 (refine Qe rfl ?_ (λW a=>?_) ?_;rotate_left;(focus(go_simp;exact rfl));simp only[Act.put,Qa,Qb,Qc])
 (refine QA rfl 147 _ (λW=>by(go_simp;try rfl)) (.int .i64 (p:Int)) (λW a=>(l.out W a.1.r).mono (λe w' h=>⟨h.1,by rw[h.2];exact Below.refl _ _⟩)) ?_;simp only[Act.put,Qa,Qb,Qc])
 (refine Qe rfl ?_ (λW a=>?_) ?_;rotate_left;(focus(go_simp;exact rfl));simp only[Act.put,Qa,Qb,Qc]);(refine QA rfl 152 _ (λW=>by(go_simp;try rfl)) (.bool b) (λW a=>m.out W) ?_;simp only[Act.put,Qa,Qb,Qc])
 (refine Qe rfl ?_ (λW a=>?_) ?_;rotate_left;(focus(go_simp;exact rfl));simp only[Act.put,Qa,Qb,Qc]);refine QE λy d=>?_
 have n:=Lv d.2;clear d l m;cases b with
 |true=>
  go_wp2_with fail
  go_ret
  exact⟨rfl,n.out⟩
 |false=>
  go_wp2_with fail
  go_ret
  exact⟨rfl,n.out⟩
end Go.Proofs.YtgnmkiafeplbpaaGreatDoor
namespace Go.Proofs.YtgnmkiafeplbpaaGreatDoor
open Go.RowKit Go.Deep
def gx0:CutS:=⟨⟨0,0⟩,0,[],[]⟩
def gx1 (s:List UInt8):CutS:={ gx0 with r:=(QR s gx0.r).2,t:=((QR s gx0.r).1:Int) }
def gn2 (s:List UInt8):Int:=(Qo s (gx1 s).r 1048576).1
def gx2 (s:List UInt8):CutS:={ gx1 s with r:=(Qo s (gx1 s).r 1048576).2 }
def gx3 (s:List UInt8):CutS:={ gx2 s with r:=(Z4 s (Z4 s (gx2 s).r (gn2 s).toNat).2 4).2,d:=(Z4 s (gx2 s).r (gn2 s).toNat).1,tl:=(Z4 s (Z4 s (gx2 s).r (gn2 s).toNat).2 4).1 }
def ge1 (s:List UInt8):Int:=KL s (gx1 s).r
def ge2 (s:List UInt8):Int:=if JN s (gx1 s).r then 4 else KL s (gx2 s).r
def ge3 (s:List UInt8):Int:=KL s (gx3 s).r
def ge4 (s:List UInt8):Int:=if Ez (s.take (gx3 s).r.pl)then 0 else 6
theorem Eo (s:List UInt8)(p:Nat):KL s ⟨p,0⟩=0:=by
 have h:ZB s ⟨p,0⟩=5\/ZB s ⟨p,0⟩=0:=by
  unfold ZB;split
  ·exact .inl rfl
  ·exact .inr rfl
 unfold KL;rcases h with h|h
 ·rw[if_pos h]
 ·rw[h];rfl
theorem AcY{s:List UInt8}{p:Nat}{e:Int}(h:e≠0)(h5:e≠5):KL s ⟨p,e⟩=e:=by
 have a:ZB s ⟨p,e⟩=e:=by
  unfold ZB;exact if_neg (λk=>h k.1)
 unfold KL;rw[a,if_neg h5]
theorem AgU{s:List UInt8}{p n:Nat}(h:p+n<=s.length):J1 s p n=(0,p+n,(s.drop p).take n):=by
 unfold J1;exact if_neg (by omega)
theorem AeN{s:List UInt8}{p n:Nat}(h:s.length<p+n):J1 s p n=(2,p,[]):=by
 unfold J1;exact if_pos h
theorem Adp{s:List UInt8}{p n:Nat}(h:p+n<=s.length):Z4 s ⟨p,0⟩ n=((s.drop p).take n,⟨p+n,0⟩):=by
 unfold Z4;rw[AgU h];rfl
theorem AgY{s:List UInt8}{p n:Nat}(h:s.length<p+n):Z4 s ⟨p,0⟩ n=([],⟨p,2⟩):=by
 unfold Z4;rw[AeN h];rfl
theorem Amu (s:List UInt8)(p n:Nat):(Z4 s ⟨p,2⟩ n).2=⟨p,2⟩:=rfl
theorem AgJ{r:Rs}{b to:Nat}{e:Int}(h:r.pl<=b)(ht:to<=b):(r.move to e).pl<=b:=by
 unfold Rs.move;split
 ·split
  ·exact ht
  ·exact h
 ·exact h
theorem Adq{s:List UInt8}{r:Rs}{n:Nat}(h:r.pl<=s.length):(Z4 s r n).2.pl<=s.length:=by
 refine AgJ h ?_;by_cases a:s.length<r.pl+n
 ·rw[AeN a];exact h
 ·rw[AgU (by omega)];show r.pl+n<=_;omega
theorem Ajr (b:UInt8)(y:List UInt8):gx1 (b::y)=⟨⟨1,0⟩,(b.toNat:Int),[],[]⟩:=by
 have h:QR (b::y) ⟨0,0⟩=(b.toNat,⟨1,0⟩):=by
  unfold QR;rw[Adp (s:=b::y) (p:=0) (n:=1) (by simp)];rfl
 unfold gx1 gx0;rw[h]
theorem Ai0{s:List UInt8}{p:Nat}(h:JN s ⟨p,0⟩=false):Qo s ⟨p,0⟩ 1048576=if (QL (s.drop p)).1=0 then(((QL (s.drop p)).2.1:Int),⟨p+(QL (s.drop p)).2.2,0⟩)else(0,⟨p,(QL (s.drop p)).1⟩):=by
 have b:¬((QL (s.drop p)).1=0/\1048576<(QL (s.drop p)).2.1):=by
  unfold JN at h;exact decide_eq_false_iff_not.1 h
 have c:QZ s p 1048576=((QL (s.drop p)).1,p+(QL (s.drop p)).2.2,(QL (s.drop p)).2.1):=by
  unfold QZ;rw[if_neg (λk=>b ⟨k.1,by have:=k.2;omega⟩)]
 unfold Qo;rw[c];by_cases a:(QL (s.drop p)).1=0
 ·rw[if_pos a,a];rfl
 ·rw[if_neg a];have d:(⟨p,0⟩:Rs).move (p+(QL (s.drop p)).2.2) (QL (s.drop p)).1=⟨p,(QL (s.drop p)).1⟩:=Aey rfl _ a;unfold Rs.step;simp only[d,if_neg a]
theorem Ali (t:List UInt8):(QL t).1≠5:=by
 unfold QL;split
 ·split<;>decide
 ·split
  ·show(0:Int)≠5;decide
  ·show(3:Int)≠5;decide
theorem AgA (s:List UInt8):(ge1 s=0/\ge2 s=0/\ge3 s=0/\ge4 s=0/\KD s=some (⟨(gx3 s).t,(gx3 s).d⟩,s.drop (gx3 s).r.pl)/\(gx3 s).r.pl<=s.length)\/(¬(ge1 s=0/\ge2 s=0/\ge3 s=0/\ge4 s=0)/\KD s=none):=by
 cases s with
 |nil=>exact .inr ⟨λh=>by have:=h.1;revert this;decide,rfl⟩
 |cons b y=>
  have g:=Ajr b y;have hd:(b::y).drop 1=y:=rfl;have z:=Ali y;by_cases ht:JN (b::y) ⟨1,0⟩=true
  ·refine .inr ⟨λh=>?_,?_⟩
   ·have a:=h.2.1;unfold ge2 at a;rw[g,if_pos ht]at a;cases a
   ·have a:(QL y).1=0/\1048576<(QL y).2.1:=of_decide_eq_true ht;unfold KD;exact if_neg (λk=>by have:=k.2.1;omega)
  ·have c:JN (b::y) ⟨1,0⟩=false:=by simpa using ht
   have i:=Ai0 c;rw[hd]at i;by_cases j:(QL y).1=0
   ·rw[if_pos j]at i;obtain⟨m,w⟩:∃m,m=(QL y).2.1:=⟨_,rfl⟩;obtain⟨k,hk⟩:∃k,k=(QL y).2.2:=⟨_,rfl⟩
    have x:m<=1048576:=by
     have h9:=of_decide_eq_false c;rw[w];exact Nat.le_of_not_lt λh=>h9 ⟨j,h⟩
    rw[<-w, <-hk]at i;have a:gx2 (b::y)=⟨⟨1+k,0⟩,(b.toNat:Int),[],[]⟩:=by unfold gx2;rw[g,i]
    have hn:(gn2 (b::y)).toNat=m:=by unfold gn2;rw[g,i];simp
    have e1:ge1 (b::y)=0:=by unfold ge1;rw[g];exact Eo _ _
    have o:ge2 (b::y)=0:=by unfold ge2;rw[g,a,if_neg (by rw[c];decide)];exact Eo _ _
    have e:KD (b::y)=if m<=1048576/\k+m+4<=y.length/\Zn (b::y.take (k+m))=(y.drop (k+m)).take 4 then some (⟨(b.toNat:Int),(y.drop k).take m⟩,y.drop (k+m+4))else none:=by
     rw[KD];rw[<-w, <-hk];simp only[j,true_and]
    by_cases v:1+k+m+4<=(b::y).length
    ·have hl:k+m+4<=y.length:=by rw[Le]at v;omega
     have u:gx3 (b::y)=⟨⟨1+k+m+4,0⟩,(b.toNat:Int),(y.drop k).take m,(y.drop (k+m)).take 4⟩:=by
      unfold gx3;rw[hn,a,Adp (s:=b::y) (p:=1+k) (n:=m) (by omega),Adp (s:=b::y) (p:=1+k+m) (n:=4) (by omega)];rw[show 1+k+m=(k+m)+1 by omega,show 1+k=k+1 by omega];rfl
     have q:ge3 (b::y)=0:=by unfold ge3;rw[u];exact Eo _ _
     have hg:Ez ((b::y).take (1+k+m+4))=decide (Zn (b::y.take (k+m))=(y.drop (k+m)).take 4):=by
      have t1:(b::y).take (1+k+m+4)=b::y.take (k+m+4):=by rw[show 1+k+m+4=(k+m+4)+1 by omega];rfl
      have l1:(b::y.take (k+m+4)).length=k+m+4+1:=by rw[Le,LH];omega
      have t2:(b::y.take (k+m+4)).take (k+m+1)=b::y.take (k+m):=by rw[LY,List.take_take,NE (by omega)]
      have t3:(b::y.take (k+m+4)).drop (k+m+1)=(y.drop (k+m)).take 4:=by rw[Nk,List.drop_take,show k+m+4-(k+m)=4 by omega]
      unfold Ez;rw[t1,l1,show k+m+4+1-4=k+m+1 by omega,t2,t3];simp only[show(4<=k+m+4+1)=True from by simp,true_and]
     have e4:ge4 (b::y)=if Zn (b::y.take (k+m))=(y.drop (k+m)).take 4 then 0 else 6:=by unfold ge4;rw[u];simp only[hg,decide_eq_true_eq]
     rw[e1,o,q,e4,e,u];by_cases l:Zn (b::y.take (k+m))=(y.drop (k+m)).take 4
     ·refine .inl ⟨rfl,rfl,rfl,if_pos l,?_,v⟩;rw[if_pos ⟨x,hl,l⟩];rw[show 1+k+m+4=(k+m+4)+1 by omega];rfl
     ·refine .inr ⟨λh=>?_,if_neg λh=>l h.2.2⟩;have:=h.2.2.2;rw[if_neg l]at this;cases this
    ·refine .inr ⟨λh=>?_,by rw[e];exact if_neg λh=>v (by rw[Le];omega)⟩;have q:=h.2.2.1
     have u:∃p,(gx3 (b::y)).r=⟨p,2⟩:=by
      unfold gx3;rw[hn,a];by_cases l:1+k+m<=(b::y).length
      ·rw[Adp (s:=b::y) (p:=1+k) (n:=m) l,AgY (s:=b::y) (p:=1+k+m) (n:=4) (by omega)];exact⟨_,rfl⟩
      ·rw[AgY (s:=b::y) (p:=1+k) (n:=m) (by omega)];exact⟨1+k,Amu (b::y) (1+k) 4⟩
     obtain⟨p,hp⟩:=u;unfold ge3 at q;rw[hp,AcY (by decide) (by decide)]at q;cases q
   ·rw[if_neg j]at i;refine .inr ⟨λh=>?_,by unfold KD;exact if_neg λh=>j h.1⟩;have o:=h.2.1;have a:(gx2 (b::y)).r=⟨1,(QL y).1⟩:=by unfold gx2;rw[g,i]
    unfold ge2 at o;rw[g,if_neg (by rw[c];decide),a,AcY j z]at o;exact j o
theorem AfN (s:List UInt8):(gx1 s).r.pl<=s.length:=Adq (s:=s) (r:=⟨0,0⟩) (n:=1) (Nat.zero_le _)
theorem AfO (s:List UInt8):(gx2 s).r.pl<=s.length:=AgJ (AfN s) (Y7 1048576 (AfN s))
theorem Ajs (s:List UInt8):(gx3 s).r.pl<=s.length:=Adq (Adq (AfO s))
theorem Alm (s:List UInt8):gn2 s=((gn2 s).toNat:Int)/\((gn2 s).toNat:Int)<=1048576:=by
 have h:gn2 s=if ((gx1 s).r.move (QZ s (gx1 s).r.pl 1048576).2.1 (QZ s (gx1 s).r.pl 1048576).1).er=0 then((QZ s (gx1 s).r.pl 1048576).2.2:Int)else 0:=rfl;rw[h];split
 ·rename_i b
  have c:(QZ s (gx1 s).r.pl 1048576).1=0:=by
   revert b;unfold Rs.move;split
   ·split
    ·intro _;assumption
    ·intro a;exact a
   ·intro a;contradiction
  have d:=Y6 c;omega
 ·decide
end Go.Proofs.YtgnmkiafeplbpaaGreatDoor
