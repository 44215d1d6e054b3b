/- Lemmas for RunnerKillsP. -/
import Derived.Test.YtkoikjnlpifbjaaGreatZk1
import Derived.Test.YtkoikjnlpifbjaaGreatZk40
import Derived.Test.YtkoikjnlpifbjaaGreatZk42
import Derived.Test.YtkoikjnlpifbjaaGreatZk29
set_option linter.unusedVariables false
set_option linter.unusedSimpArgs false
set_option maxRecDepth 100000
set_option maxHeartbeats 16000000
namespace Go.Proofs.YtkoikjnlpifbjaaGreat
open Go.RowKit Go.Deep
theorem Vy{w:World}:(zeroValue 52).run Tryz.prog w=.ok (.agg #[.int .i64 0,.int .i64 0]) w:=by kernel_rfl
structure But (g:Nat)(w w':World):Prop where
 os:w'.os=w.os
 tape:w'.tape=w.tape
 output:w'.output=w.output
 size:w.heap.size<=w'.heap.size
 block:∀k,k<w.heap.size->k≠g->w'.heap[k]? =w.heap[k]?
theorem AbN{w:World}:(zeroValue 221).run Tryz.prog w=.ok (.agg #[.int .i64 0,.int .i64 0]) w:=by kernel_rfl
theorem Akr (k x:Int)(w:World):(Instr.typeAssert (AdY k x) 20 221 true).run Tryz.prog w=.ok (.tuple #[.agg #[.int .i64 k,.int .i64 x],.bool true]) w:=by kernel_rfl
theorem Ald (w:World):(Instr.typeAssert .nilIface 20 221 true).run Tryz.prog w=.ok (.tuple #[.agg #[.int .i64 0,.int .i64 0],.bool false]) w:=by kernel_rfl
theorem AeB (p:Nat)(k x:Int)(older:List PanicEntry)(w:World)(hr:Row w p 52 #[.int .i64 0,.int .i64 0]):
 CallsD Tryz.prog 134 #[.pointer (some ⟨p,0,none⟩)] (.panicking ({ v:=AdY k x,recovered:=false }::older)) w λe u' w'=>
  e=.returned (.tuple #[])/\u'=.panicking ({ v:=AdY k x,recovered:=true }::older)/\Row w' p 52 #[.int .i64 k,.int .i64 x]/\But p w w':=by
 have d:=Akr k x w;generalize AdY k x=ov at d|-;refine callsD_of_wpS Tryz.func134 rfl λu s y=>?_
 refine wpS_seq ?_;refine YR ?_;simp only[Tryz.ntmps134];simp only[Lk,Lc,Lo,Nat.reduceAdd,Nat.reduceSub,Li,Lj,Lp,Lm,Ll,L5];refine @All _ _ _ _ _ _ _ _ rfl (by rfl) ov ({ u with mode:=.panicking ({ v:=ov,recovered:=true }::older) }::s) (by simp only[recoverD,y]) ?_;simp only[Act.put,Qa,Qb,Qc];refine @Jg _ _ _ _ _ _ _ _ rfl ?_;refine @Qn _ _ _ _ w _ _ (.tuple #[.agg #[.int .i64 k,.int .i64 x],.bool true]) ?_ ?_
 ·exact VP rfl (d)
 simp only[Act.put,Qa,Qb,Qc];refine @Jg _ _ _ _ _ _ _ _ rfl ?_;refine @Qn _ _ _ _ w _ _ (.tuple #[.agg #[.int .i64 k,.int .i64 x],.bool true]) ?_ ?_
 ·go_simp;try exact rfl
 simp only[Act.put,Qa,Qb,Qc];refine @Jg _ _ _ _ _ _ _ _ rfl ?_;refine @Qn _ _ _ _ w _ _ (.agg #[.int .i64 k,.int .i64 x]) ?_ ?_
 ·go_simp;try exact rfl
 simp only[Act.put,Qa,Qb,Qc];refine @Jg _ _ _ _ _ _ _ _ rfl ?_;refine @Qn _ _ _ _ w _ _ (.bool true) ?_ ?_
 ·go_simp;try exact rfl
 simp only[Act.put,Qa,Qb,Qc];refine @Jg _ _ _ _ _ _ _ _ rfl ?_;refine @QD _ _ _ _ _ _ 221 rfl _ _ AbN rfl (λg w1 q rg o=>?_);simp only[Act.put,Qa,Qb,Qc];refine @Jg _ _ _ _ _ _ _ _ rfl ?_;refine @Q6 _ _ _ _ _ _ 221 (.tmp 1) (.tmp 6) rfl g #[.int .i64 k,.int .i64 x] rfl rfl 221 _ rg (by kernel_rfl) rfl (by simp[Value.oneCell']) (λj z c=>?_);simp only[Act.put];refine @Jg _ _ _ _ _ _ _ _ rfl ?_;refine @Qn _ _ _ _ j _ _ (.bool true) ?_ ?_
 ·go_simp;try exact rfl
 simp only[Act.put,Qa,Qb,Qc];show Code.wpS _ _ _ _ _ _;refine wpS_seq ?_;refine YR ?_;refine @Jg _ _ _ _ _ _ _ _ rfl ?_;refine @Qn _ _ _ _ j _ _ (.bool true) ?_ ?_
 ·go_simp;try exact rfl
 simp only[Act.put,Qa,Qb,Qc];show Code.wpS _ _ _ _ _ _;refine wpS_cond (t:=true) rfl ?_;simp only[if_true];refine YR ?_;refine @Jg _ _ _ _ _ _ _ _ rfl ?_;refine @Qn _ _ _ _ j _ _ (.pointer (some ⟨g,0,none⟩)) ?_ ?_
 ·go_simp;try exact rfl
 simp only[Act.put,Qa,Qb,Qc];refine @Jg _ _ _ _ _ _ _ _ rfl ?_;refine @wp_load_row _ _ _ _ _ _ 52 _ rfl g rfl 221 #[.int .i64 k,.int .i64 x] (0,0) _ z Tryz.underlying52 rfl (by kernel_rfl) ?_;simp only[Act.put,Qa,Qb,Qc];have m:p≠g:=by have:=hr.lt;omega
 have n:Row j p 52 #[.int .i64 0,.int .i64 0]:=(hr.below (o.mono q) hr.lt).only c m;refine @Jg _ _ _ _ _ _ _ _ rfl ?_;refine @Q6 _ _ _ _ _ _ 52 (.tmp 0) (.tmp 10) rfl p #[.int .i64 k,.int .i64 x] rfl rfl 52 _ n (by kernel_rfl) rfl (by simp[Value.oneCell']) (λw3 r3 h=>?_);simp only[Act.put];refine⟨rfl,_,rfl,.tuple #[],by simp[results,Tryz.results134],rfl,rfl,r3,?_⟩;have b:=o.mono q;exact⟨by rw[h.os,c.os,b.os],by rw[h.tape,c.tape,b.tape],by rw[h.output,c.output,b.output],by rw[h.size,c.size];exact b.size,λi hi l=>((h.block i l).trans (c.block i (by omega))).trans (b.block i hi)⟩
theorem AeA (p:Nat)(w:World):
 CallsD Tryz.prog 134 #[.pointer (some ⟨p,0,none⟩)] .returning w λe u' w'=>e=.returned (.tuple #[])/\u'=.returning/\Below w.heap.size w w':=by
 refine callsD_of_wpS Tryz.func134 rfl λj n k=>?_
 refine wpS_seq ?_;refine YR ?_;simp only[Tryz.ntmps134];simp only[Lk,Lc,Lo,Nat.reduceAdd,Nat.reduceSub,Li,Lj,Lp,Lm,Ll,L5];refine @AhA _ _ _ _ _ _ _ _ rfl (by rfl) (by simp only[recoverD,k]) ?_;simp only[Act.put,Qa,Qb,Qc];have c:=Ald w;generalize Value.nilIface=ov at c|-;refine @Jg _ _ _ _ _ _ _ _ rfl ?_;refine @Qn _ _ _ _ w _ _ (.tuple #[.agg #[.int .i64 0,.int .i64 0],.bool false]) ?_ ?_
 ·exact VP rfl (c)
 simp only[Act.put,Qa,Qb,Qc];refine @Jg _ _ _ _ _ _ _ _ rfl ?_;refine @Qn _ _ _ _ w _ _ (.tuple #[.agg #[.int .i64 0,.int .i64 0],.bool false]) ?_ ?_
 ·go_simp;try exact rfl
 simp only[Act.put,Qa,Qb,Qc];refine @Jg _ _ _ _ _ _ _ _ rfl ?_;refine @Qn _ _ _ _ w _ _ (.agg #[.int .i64 0,.int .i64 0]) ?_ ?_
 ·go_simp;try exact rfl
 simp only[Act.put,Qa,Qb,Qc];refine @Jg _ _ _ _ _ _ _ _ rfl ?_;refine @Qn _ _ _ _ w _ _ (.bool false) ?_ ?_
 ·go_simp;try exact rfl
 simp only[Act.put,Qa,Qb,Qc];refine @Jg _ _ _ _ _ _ _ _ rfl ?_;refine @QD _ _ _ _ _ _ 221 rfl _ _ AbN rfl (λg q d m i=>?_);simp only[Act.put,Qa,Qb,Qc];refine @Jg _ _ _ _ _ _ _ _ rfl ?_;refine @Q6 _ _ _ _ _ _ 221 (.tmp 1) (.tmp 6) rfl g #[.int .i64 0,.int .i64 0] rfl rfl 221 _ m (by kernel_rfl) rfl (by simp[Value.oneCell']) (λh o l=>?_);simp only[Act.put];refine @Jg _ _ _ _ _ _ _ _ rfl ?_;refine @Qn _ _ _ _ h _ _ (.bool false) ?_ ?_
 ·go_simp;try exact rfl
 simp only[Act.put,Qa,Qb,Qc];show Code.wpS _ _ _ _ _ _;refine wpS_seq ?_;refine YR ?_;refine @Jg _ _ _ _ _ _ _ _ rfl ?_;refine @Qn _ _ _ _ h _ _ (.bool false) ?_ ?_
 ·go_simp;try exact rfl
 simp only[Act.put,Qa,Qb,Qc];show Code.wpS _ _ _ _ _ _;refine wpS_cond (t:=false) rfl ?_;simp only[Bool.false_eq_true,if_false];refine wpS_of_wp (wp_skip ?_);refine⟨rfl,.returning,?_,.tuple #[],by simp[results,Tryz.results134],rfl,rfl,(i.mono d).trans (l.below d)⟩;cases j;simp_all
theorem AgA (L:Lay)(hL:DOk L)(t:Tr)(s s':Ms)(v:Int)(ev:Value)(W:World)(h:DR L s ev W)(hat:At L.p.body 0 t)(hE:EntD L t s v s'):
 Calls Tryz.prog 98 #[.pointer (some ⟨L.M,0,none⟩)] W λe W'=>e=.returned (.agg #[.int .i64 ((s'.stopped 3 0).out.getD (0,0)).1,.int .i64 ((s'.stopped 3 0).out.getD (0,0)).2])/\∃ev',DR L s' ev' W'/\RChg L ev W ev' W':=by
 have y:=Lh hL;have ac:=Lh hat;have j:=Lh h;have HE:=Lh hE;clear hL hat h hE;have ad:∀(fn:Fn) (first cap:Array Value) (w:World),(Instr.makeFunc fn first cap).run Tryz.prog w=.ok (.func fn first cap) w:=λ_ _ _ _=>rfl
 go_enter_defers Tryz.func98,Tryz.ntmps98
 go_wp2_with (refine QH _ rfl ?_)
 refine Stop.to ?_;refine Qj rfl 52 rfl _ _ Vy rfl ?_;intro P w1 hP rP b1;have hm:=j.out.below y.out (b1.mono hP);have HP:Hid (FRow L ev w1 P 52 #[.int .i64 0,.int .i64 0]):=⟨j.out.far_new hP rP.lt,rP⟩;have HC:Hid (RChg L ev W ev w1):=RChg.below (b1.mono hP);have d:=Lh (HE.out 0 ev w1 ac.out hm);clear hm b1 j;go_wp2_with fail
 refine d.out.mono ?_;rintro e W2 ⟨rfl,aa,ab,l⟩;have c:=Lh (HP.out.go y.out l);have u:=Lh (HC.out.trans l);have z:=Lh ab;clear ab l d HP HC;cases hs:s'.out with
 |none=>
  rw[QU hs];have Hs:=Lh hs;clear hs;go_wp2_with (refine Qs _ _ _ rfl ?_)
  refine Stop.to ?_;refine Qk rfl 52 _ _ rfl P #[.int .i64 3,.int .i64 0] rfl rfl 52 _ c.out.2 (by kernel_rfl) rfl (by simp[Value.oneCell']) ?_;intro W3 r3 o3;go_wp2_with fail
  refine leaves_cons (f:=134) (args:=#[.pointer (some ⟨P,0,none⟩)]) (by simp) (by simp[go_sem]) ?_;refine(AeA P W3).mono ?_;rintro e u' w9 ⟨rfl,rfl,bb⟩;refine⟨_,results_cell_row Tryz.results98 _ _ P 52 _ (0,0) _ rfl (r3.below bb r3.lt) Tryz.underlying52 rfl (by kernel_rfl),?_⟩;have g3:W2.grownBy W3 (some P):=⟨o3.os,o3.tape,o3.output,LD o3.size.symm,λk hk q=>o3.block k (λe=>q (by rw[e]))⟩;have n:=(z.out.grown y.out g3 (λg e=>by cases e;exact⟨c.out.1.lo,c.out.1.ev⟩)).below y.out bb;have m:=(u.out.more g3 (λg e=>by cases e;exact hP)).trans (RChg.below bb);refine⟨?_,aa,n,m⟩;unfold Ms.stopped;rw[Hs.out];rfl
 |some o=>
  obtain⟨k,x⟩:=o;rw[Zu hs];simp only[Zc];have Hs:=Lh hs;clear hs;go_wp2_with fail
  refine leaves_cons (f:=134) (args:=#[.pointer (some ⟨P,0,none⟩)]) (by simp) (by simp[go_sem]) ?_;refine(AeB P k x [] W2 c.out.2).mono ?_;rintro e u' w9 ⟨rfl,rfl,rP,i⟩;refine⟨_,results_cell_row Tryz.results98 _ _ P 52 _ (0,0) _ rfl rP Tryz.underlying52 rfl (by kernel_rfl),?_⟩;have g3:W2.grownBy w9 (some P):=⟨i.os,i.tape,i.output,i.size,λk hk q=>i.block k hk (λe=>q (by rw[e]))⟩;have n:=z.out.grown y.out g3 (λg e=>by cases e;exact⟨c.out.1.lo,c.out.1.ev⟩);have m:=u.out.more g3 (λg e=>by cases e;exact hP);refine⟨?_,aa,n,m⟩;unfold Ms.stopped;rw[show s'.out.isSome=true from by rw[Hs.out];rfl,if_pos rfl,Hs.out];rfl
def Ke (p:PgV)(cv:Value)(F:Int):Array Value:=#[.slice p.ba p.body.length p.bcap,cv,.int .i64 F,.int .i64 0,.int .i64 0,.int .i64 0,.slice none 0 0]
def Xg (gs:List Nat)(V:List Int):List Value:=(gs.zip V).map λx=>JL x.2 x.1
theorem AeE (gs:List Nat)(V:List Int)(g:Nat)(t:Int)(h:V[gs.length]? =some t):Xg (gs++[g]) V=Xg gs V++[JL t g]:=by
 induction gs generalizing V with
 |nil=>
  cases V with
  |nil=>simp at h
  |cons b V=>simp at h;subst h;simp[Xg]
 |cons a gs ih=>
  cases V with
  |nil=>simp at h
  |cons b V=>
   simp at h;have:=ih V h;unfold Xg at this|-;simp only[Ll,List.zip_cons_cons,LP,this]
theorem AeF{gs:List Nat}{V:List Int}{i g:Nat}{t:Int}(h1:gs[i]? =some g)(h2:V[i]? =some t):(Xg gs V)[i]? =some (JL t g):=by
 unfold Xg;rw[L4,(List.getElem?_zip_eq_some (z:=(g,t))).2 ⟨h1,h2⟩];rfl
theorem Vf:(Tryz.prog.info? 160).map (λi=>(i.zero,i.size,i.bytes))=some (some .nilIface,1,16):=by kernel_rfl
theorem Ahw{w:World}:(zeroValue 3).run Tryz.prog w=.ok (.int .i64 0) w:=by kernel_rfl
structure DK (p:PgV)(M Bk:Nat)(F:Int)(args:List Int)(W1:World)(k:Nat)(W:World):Prop where
 ex:∃cv gs,Row W M 156 (Ke p cv F)/\gs.length=k/\W.ownsRow Bk 160 1 cv k (Xg gs p.V)/\(∀(i g:Nat) (t:Int),gs[i]? =some g->p.V[i]? =some t->Row W g 3 (Qi ((Zk p.V args F.toNat).cont i t)).toArray)/\(∀g∈gs,Bk<=g)/\gs.Nodup/\ChM M Bk W1 W
structure DK3 (p:PgV)(M Bk:Nat)(F:Int)(cv:Value)(args:List Int)(gs:List Nat)(W1:World)(W:World):Prop where
 row:Row W M 156 (Ke p cv F)
 cv:W.ownsRow Bk 160 1 cv gs.length (Xg gs p.V)
 rows:∀(i g:Nat) (t:Int),gs[i]? =some g->p.V[i]? =some t->Row W g 3 (Qi ((Zk p.V args F.toNat).cont i t)).toArray
 ge:∀g∈gs,Bk<=g
 nd:gs.Nodup
 ch:ChM M Bk W1 W
 size:Bk<=W.heap.size
section
variable {p:PgV} {M Bk:Nat} {F:Int} {cv:Value} {args:List Int} {gs:List Nat} {W1 W W':World}
theorem DK3.go (h:DK3 p M Bk F cv args gs W1 W)(b:Below W.heap.size W W'):DK3 p M Bk F cv args gs W1 W':=
 ⟨h.row.below b h.row.lt,QB h.cv b,λi g t h1 h2=>(h.rows i g t h1 h2).below b (h.rows i g t h1 h2).lt,h.ge,h.nd,h.ch.trans (.below (b.mono h.size)),Ld h.size b.size⟩
theorem DK3.lt (h:DK3 p M Bk F cv args gs W1 W)(hl:gs.length<=p.V.length):∀g∈gs,g<W.heap.size:=by
 intro g c;obtain⟨i,d,hi⟩:=Na c;have e:gs[i]? =some g:=by rw[Lb d,hi]
 have j:p.V[i]? =some (p.V[i]'(by omega)):=Lb _;exact(h.rows i g _ e j).lt
theorem DK3.only (h:DK3 p M Bk F cv args gs W1 W){g:Nat}{t:TypeId}{cs:Array Value}(o:Only g W W')(hg:Row W g t cs)(ht:t≠160)(hM:g≠M)(hB:Bk<=g)(hn:g∉gs):DK3 p M Bk F cv args gs W1 W':=
 ⟨h.row.only o (λe=>hM e.symm),Qx h.cv o (λe=>Qz h.cv hg (λe=>ht e.symm) e),λi g' t' h1 h2=>(h.rows i g' t' h1 h2).only o (λe=>hn (e▸Lf h1)),h.ge,h.nd,
  h.ch.trans ⟨o.os,o.tape,o.output,LD o.size.symm,λk hk _=>o.block k (by omega)⟩,by rw[o.size];exact h.size⟩
theorem DK3.more (h:DK3 p M Bk F cv args gs W1 W){cv':Value}{g:Nat}{t:Int}{Wa Wb:World}(hl:gs.length<=p.V.length)(ht:p.V[gs.length]? =some t)(hg:Row W g 3 (Qi ((Zk p.V args F.toNat).cont gs.length t)).toArray)(hB:Bk<=g)(hn:g∉gs)
 (hown:Wa.ownsRow Bk 160 1 cv' (gs.length+1) (Xg gs p.V++[JL t g])) (hgr:W.grownBy Wa cv.ownBlock) (o:Only M Wa Wb) (hr:Row Wb M 156 (Ke p cv' F)) (hMB:M<Bk):DK p M Bk F args W1 (gs.length+1) Wb:=by
 have s:∀(i j:Nat) (m:Int),(gs++[g])[i]? =some j->p.V[i]? =some m->Row W j 3 (Qi ((Zk p.V args F.toNat).cont i m)).toArray/\Bk<=j:=by
  intro i j m c l;rcases Nk i gs.length with hl|hl|hl
  ·rw[L3 hl]at c;exact⟨h.rows i j m c l,h.ge j (Lf c)⟩
  ·subst hl;rw[Lx (Nat.le_refl _),N3]at c;injection c with c;subst c;rw[ht]at l;injection l with l;subst l;exact⟨hg,hB⟩
  ·rw[Lx (by omega)]at c;have:=(La.1 c).1;simp at this;omega
 refine⟨cv',gs++[g],hr,by simp,?_,λi j m c l=>?_,λj d=>?_,?_,?_⟩
 ·rw[AeE gs p.V g t ht];exact Qx hown o (λe=>by have:=QQ hown e;omega)
 ·have:=s i j m c l;exact(this.1.grown hgr (Qz h.cv this.1 (by decide))).only o (by omega)
 ·rcases L2.1 d with d|d
  ·exact h.ge j d
  ·rw[Lv.1 d];exact hB
 ·rw[List.nodup_append];refine⟨h.nd,by simp,λa n b q e=>?_⟩;rw[Lv.1 q]at e;subst e;exact hn n
 ·exact(h.ch.trans (.grown hgr h.size (λk e=>QQ h.cv e))).trans (.only o)
end
theorem AhR{V args:List Int}{F k:Nat}{t:Int}(ht:V[k]? =some t)(h0:QC t≠0):(Zk V args F).cont k t=List.replicate (QC t).toNat 0:=by
 unfold Ms.cont;rw[if_neg h0];simp[Zk,En,ht]
theorem AhQ{V args:List Int}{F k:Nat}{t:Int}(ht:V[k]? =some t)(h0:QC t=0):(Zk V args F).cont k t=[args.getD k 0]:=by
 unfold Ms.cont;rw[if_pos h0];have:=(La.1 ht).1;simp[Zk,Kn,List.getElem?_range this]
theorem AgD{p:PgV}{args:List Int}{fuel:Int}{w W1 W:World}{M Bk RB:Nat}{cs:Array Value}(hbl:p.body.length<=1000)(hok:p.ok w)(hf:0<=fuel/\fuel<=10000)
 (hMw:w.heap.size<=M) (hMB:M<Bk) (hBk:Bk=W1.heap.size) (b1:Below w.heap.size w W1) (hK:DK p M Bk fuel args W1 p.V.length W) (hRB:Row W1 RB 114 cs) (hRBM:RB<M):
 ∃L:Lay,L.M=M/\L.p=p/\L.F=fuel.toNat/\DOk L/\DR L (Zk p.V args fuel.toNat) (.slice none 0 0) W/\LNew w.heap.size L/\Kept L W RB 114 cs:=by
 obtain⟨cv,z,r,x,j,k,s,ad,q⟩:=hK.ex;have ag:=b1.size;have ah:Bk<=W.heap.size:=by have:=q.size;omega
 have v:M<W.heap.size:=r.lt
 have o:∀g∈z,∃cs,Row W g 3 cs:=by
  intro g ab;obtain⟨i,ac,hi⟩:=Na ab;exact⟨_,k i g _ (by rw[Lb ac,hi]) (Lb (by omega))⟩
 have y:∀g∈z,g<W.heap.size:=λg d=>by obtain⟨cs,hr⟩:=o g d;exact hr.lt
 have bW:Below w.heap.size w W:=b1.trans (q.to_below (by omega) hMw);obtain⟨aa,u,m,_⟩:=Kx j;let L:Lay:=⟨p,M,none,0,.slice none 0 0,aa,u,z,0,fuel.toNat,w.heap.size,W.heap.size,λX=>Below w.heap.size w X/\X.ownsRow Bk 160 1 cv p.V.length (Xg z p.V)⟩;have n:LNew w.heap.size L:=⟨hMw,by show _<=W.heap.size;omega,λg e=>(by cases e),λg d=>by have:=s g d;omega⟩
 have hL:DOk L:=by
  refine⟨⟨λX X' h c=>⟨h.1.trans (c.new n),Ec h.2 c (λg e=>?_)⟩,v,λg e=>(by cases e),λg d=>⟨y g d,by have:=s g d;show g≠M;omega⟩,ad,by show fuel.toNat<=20000;omega,hbl,by show w.heap.size<=M;omega,by show w.heap.size<=W.heap.size;omega⟩,λX h=>hok.go h.1,λX h i g t d ht=>?_,x,rfl⟩
  ·refine⟨Xk j e,by have:=QQ j e;show g≠M;omega,λe2=>(by cases e2),λd=>?_⟩;obtain⟨cs,hr⟩:=o g d;exact Qz j hr (by decide) e
  ·obtain⟨af,c',l,ae⟩:=Kx h.2;rw[m]at l;injection l with e1 e2 e3;subst e1;exact ae i _ (AeF d ht)
 refine⟨L,rfl,rfl,rfl,hL,⟨?_,World.ownsRow_nil _ _ _ _,k,⟨bW,j⟩,Nat.le_refl _,LG _,Nat.le_refl _⟩,n,hRB.chm q (by omega) (by omega),by show RB≠M;omega,λe=>(by cases e),λd=>by have:=s _ d;omega⟩;have hF:((fuel.toNat:Nat):Int)=fuel:=by omega
 have e:L.dcells (Zk p.V args fuel.toNat) (.slice none 0 0)=Ke p cv fuel:=by
  rw[m];unfold Lay.dcells Ke;simp only[L,x,Zk,hF];rfl
 rw[e];exact r
theorem AkX{L:Lay}{s:Ms}{ev:Value}{k x:Int}{W:World}(h:Row W L.M 156 #[.slice L.p.ba L.p.body.length L.p.bcap,.slice L.aa L.ab.length L.acap,.int .i64 (L.F:Int),.int .i64 k,.int .i64 x,.int .i64 (s.steps:Int),ev])(j:Nat)(v:Value)(hj:([.int .i64 k,.int .i64 x,.int .i64 (s.steps:Int),ev]:List Value)[j]? =some v):W.cell? ((⟨L.M,3,none⟩:Addr).add j)=some v:=by
 match j,hj with
 |0,hj=>injection hj with hj;subst hj;exact h.cellv (i:=3) rfl
 |1,hj=>injection hj with hj;subst hj;exact h.cellv (i:=4) rfl
 |2,hj=>injection hj with hj;subst hj;exact h.cellv (i:=5) rfl
 |3,hj=>injection hj with hj;subst hj;exact h.cellv (i:=6) rfl
 |j+4,hj=>cases hj
theorem AhW (p:PgV)(t:Tr)(aa:Option Addr)(acap:Nat)(args:List Int)(fuel v:Int)(s':Ms)(w:World)(hbl:p.body.length<=1000)(hn:args.length<=1000)(hok:p.ok w)(hra:Rd w aa (Qi args))(hin:∀a∈args,InI a)(hg:Good p t)(hgo:okO p.V t)(hso:OkS p.V (Zk p.V args fuel.toNat))
 (hc:Q7 p args.length fuel=0) (hbig:Big (.one t) (Zk p.V args fuel.toNat) v s'):
 Calls Tryz.prog 57 #[.agg p.cells,.slice aa args.length acap,.int .i64 fuel] w λe w'=>RunR ⟨s'.stopped 3 0,[]⟩ w w' e:=by
 obtain⟨_,_,bh,hf⟩:=KO hc;have a9:=Lh hok;have cc:=Lh hbl;have c2:=Lh hra;have df:=Lh hin;have Hg:=Lh hg;have Hc:=Lh hc;have cb:=Lh hbig;have bo:=Lh hg.vars;have be:=Lh bh;have Hf:=Lh hf;have Hn:=Lh hn;have cy:=Lh hgo;have c4:=Lh hso;have dj:p.V.length<=12:=hg.vars.2.2.1;clear hok hbl hra bh hf hn hc hg hin hbig hgo hso;go_enter Tryz.func57,Tryz.ntmps57
 go_wp2_with (refine Qq _ _ rfl ?_)
 refine Stop.to ?_;refine Qe rfl 25 _ rfl p.cells rfl ?_;intro G w1 hG r1 b1;replace b1:=(Below.refl w.heap.size w).trans (b1.mono hG);go_wp2_with (refine QH _ rfl ?_)
 refine Stop.to ?_;refine Qj rfl 114 rfl _ _ Kd rfl ?_;intro RB w2 aq rB b2;replace r1:=r1.below (b2.mono aq) r1.lt;have ci:w.heap.size<=RB:=Ld b1.size aq;replace b2:=b1.trans ((b2.mono aq).mono b1.size);have R1:=Lh r1;have bp:=Lh rB;have B2:=Lh b2;clear r1 b1 b2 rB aq hG w1;go_wp2_with (refine wpList_load_row rfl 25 _ rfl G rfl 25 p.cells (0,0) _ R1.out Tryz.underlying25 rfl (by kernel_rfl) ?_)
 refine(Yi p aa acap args.length fuel cc.out Hn.out w2 (a9.out.go B2.out)).mono ?_;rintro e w3 ⟨rfl,b3⟩;rw[Hc.out];have R3:=Lh (R1.out.below b3 R1.out.lt);have bb:=Lh (bp.out.below b3 bp.out.lt);have B3:=Lh (B2.out.trans (b3.mono B2.out.size));clear b3 R1 bp B2;have g2:=R3.out.cellv (i:=2) (v:=.slice p.ba p.body.length p.bcap) rfl;go_wp2_with (refine AcN 156 _ rfl ?_)
 refine Stop.to ?_;have aj:∀W,(Instr.build 156 #[(0,.slice p.ba p.body.length p.bcap),(2,.int .i64 fuel)]).run Tryz.prog W=.ok (.agg (Ke p (.slice none 0 0) fuel)) W:=λW=>run_build W _ _ _ (by kernel_rfl);refine KD rfl (.agg (Ke p (.slice none 0 0) fuel)) (Zy 156 [_,_] rfl _ (by exact aj _)) ?_;clear aj g2;go_wp2_with (refine Qq _ _ rfl ?_)
 refine Stop.to ?_;refine Qe rfl 156 _ rfl (Ke p (.slice none 0 0) fuel) rfl ?_;intro M W1 hM rM b4;have br:w.heap.size<=M:=Ld B3.out.size hM;have di:G<M:=Lg R3.out.lt hM;have cg:RB<M:=Lg bb.out.lt hM;have G1:=Lh (R3.out.below (b4.mono hM) R3.out.lt);have c6:=Lh (bb.out.below (b4.mono hM) bb.out.lt);have B1:=Lh (B3.out.trans ((b4.mono hM).mono B3.out.size));have R1:=Lh rM;obtain⟨Bk,bq⟩:∃Bk,Bk=W1.heap.size:=⟨_,rfl⟩;have bc:M<Bk:=by rw[bq];exact R1.out.lt
 have a5:=Lh bq;have g1:=G1.out.cellv (i:=1) (v:=.slice p.va p.V.length p.vcap) rfl;clear bq b4 rM hM R3 bb B3;go_wp2_with fail
 go_loopw [10,11,12,29] (λ_ _ _ i W=>∃(k:Nat),i=.int .i64 (k:Int)/\k<=p.V.length/\Hid (DK p M Bk fuel args W1 k W)) (λ_ _ _ i _=>p.V.length-(intOf i).toNat)
 case atStart=>exact⟨0,rfl,Nat.zero_le _,Lh ⟨.slice none 0 0,[],R1.out,rfl,by simpa[Xg]using World.ownsRow_nil W1 Bk 160 1,λi g t h=>by simp at h,λg h=>by simp at h,List.nodup_nil,ChM.refl _ _ _⟩⟩
 case round=>
  clear g1;obtain⟨k,rfl,hk,hK⟩:=hrel;by_cases bx:k<p.V.length
  ·obtain⟨cv,u,r,rfl,ck,a3,cl,cr,aw⟩:=hK.out;obtain⟨t,ht⟩:∃t,p.V[u.length]? =some t:=⟨_,Lb bx⟩;have bt:Below w.heap.size w wr:=B1.out.trans (aw.to_below (by have:=B1.out.size;have:=a5.out;omega) br);obtain⟨vd,dc,dh⟩:=Zg (a9.out.go bt).vrd ht;have a4:Bk<=wr.heap.size:=by have:=aw.size;have:=a5.out;omega
   have ct:InI t:=a9.out.vin t (Lf ht);have bk:=Lh (show DK3 p M Bk fuel cv args u W1 wr from⟨r,ck,a3,cl,cr,aw,a4⟩);have dk:(u.length:Int)<(p.V.length:Int):=by omega
   have Ht:=Lh ht;obtain⟨n,hn⟩:∃n:Nat,QC t=(n:Int):=⟨(QC t).toNat,by unfold QC;split<;>omega⟩
   have dm:n<=8:=by unfold QC at hn;split at hn<;>omega
   have cp:∀W:World,(Instr.makeSlice 22 (.int .i64 (n:Int)) (.int .i64 (n:Int))).run Tryz.prog W=.ok (.slice (some ⟨W.heap.size,0,none⟩) n n) (W.alloc (.cells (Qi (List.replicate n 0)).toArray 3)):=λW=>by
    have:=run_make_row' (P:=Tryz.prog) (w:=W) 22 3 (.int .i64 0) 8 Tryz.underlying22 Jc rfl .i64 .i64 n (by omega) (by omega);rw[show madeCells #[Value.int .i64 0] n=(Qi (List.replicate n 0)).toArray from by rw[KH];simp[Qi]]at this;exact this
   have ah:=Lh hn;have hra:=c2.out.go (bt.mono (Nat.le_refl _));have bf:=Lh hra;clear r ck a3 cl cr aw hK ht bt hn hra;rw[dc];go_wp2_with fail
   refine(KS t wr ct).mono ?_;rintro e we ⟨rfl,rfl⟩;rw[ah.out];go_wp2_with fail
   refine(KS t _ ct).mono ?_;rintro e ao ⟨rfl,b7⟩;have rn:Row ao wr.heap.size 3 (Qi (List.replicate n 0)).toArray:=by rw[<-b7];exact Row.new wr _ _
   have bn:Below wr.heap.size wr ao:=by rw[<-b7];exact(Below.refl _ _).alloc (Nat.le_refl _) _
   have cq:wr.heap.size∉u:=λhm=>absurd (bk.out.lt (by omega) _ hm) (Nat.lt_irrefl _)
   have ap:=Lh (bk.out.go bn);have bj:=Lh rn;have bm:=Lh cq;have g0:ao.cell? ⟨G,0,none⟩=some (.int .i64 p.params):=((G1.out.chm ap.out.ch (by omega) (by omega)).cellv (i:=0) rfl);have az:=Lh (bf.out.go bn);have dd:wr.heap.size<ao.heap.size:=rn.lt;clear rn bn cq b7 bk bf;by_cases da:n=0
   ·subst da;rw[ah.out];clear cp bj;go_wp2_with (refine QH _ rfl ?_)
    refine Stop.to ?_;refine Qj rfl 3 rfl _ _ Ahw rfl ?_;intro q w5 au cu ce;have a0:=ce.mono au;have o:=Lh (ap.out.go a0);have bi:=az.out.go a0;replace g0:w5.cell? ⟨G,0,none⟩=some (.int .i64 p.params):=((G1.out.chm o.out.ch (by omega) (by omega)).cellv (i:=0) rfl);have cm:q∉u:=λhm=>absurd (ap.out.lt (by omega) _ hm) (by omega)
    have bl:=Lh cm;have bw:Bk<=q:=Ld ap.out.size au;have cf:q≠M:=by omega
    have y:QC t=0:=by simpa using ah.out
    have ax:Hid (JL t q=.iface 163 (.agg #[.pointer (some ⟨q,0,none⟩)])):=by show _=_;unfold JL;rw[if_pos y]
    have a7:=Lh (AhQ (args:=args) (F:=fuel.toNat) Ht.out y);have l:=Lh cu;have ar:=Lh bi;clear y ap az cm ce a0 cu bi dd bm au;have aj:∀W,(Instr.build 163 #[(0,.pointer (some ⟨q,0,none⟩))]).run Tryz.prog W=.ok (.agg #[.pointer (some ⟨q,0,none⟩)]) W:=λW=>run_build W _ _ _ (by kernel_rfl);go_wp2_with (refine AcN 163 _ rfl ?_)
    refine Stop.to ?_;refine KD rfl (.agg #[.pointer (some ⟨q,0,none⟩)]) (Zy 163 [_] rfl _ (by exact aj _)) ?_;clear aj;by_cases db:(u.length:Int)<p.params
    ·have cn:u.length<args.length:=by have:=be.out;omega
     obtain⟨x,hx⟩:∃x,args[u.length]? =some x:=⟨_,Lb cn⟩;obtain⟨ad,rfl,cx⟩:=Zg ar.out hx;have co:(u.length:Int)<(args.length:Int):=by omega
     have ay:Hid ([args.getD u.length 0]=[x]):=by show _=_;simp[hx]
     have gm:=λ(f:Nat) (W:World)=>Af5 (g:=q) f W;have Hx:=Lh hx;clear hx;go_wp2_with fail
     obtain⟨S,av⟩:∃S:World->Prop,S=(λW=>DK3 p M Bk fuel cv args u W1 W/\Row W q 3 (Qi [0]).toArray/\Rd W (some ad) (Qi args)):=⟨_,rfl⟩;have de:St S:=by rw[av];exact⟨λh b=>⟨h.1.go b,h.2.1.below b h.2.1.lt,h.2.2.go b⟩⟩
     have S0:Hid (∀W,S W->DK3 p M Bk fuel cv args u W1 W):=by show ∀W,_;rw[av];exact λW h=>h.1
     have S1:Hid (∀W,S W->Row W q 3 (Qi [0]).toArray):=by show ∀W,_;rw[av];exact λW h=>h.2.1
     have S2:Hid (∀W,S W->W.cell? (ad.add u.length)=some (.int .i64 x)):=by
      show ∀W,_;rw[av];intro W h;obtain⟨dg,e,c⟩:=Zg h.2.2 Hx.out;cases e;exact c
     have hS:S w5:=by rw[av];exact⟨o.out,l.out,ar.out⟩
     clear av cx o l ar g0;refine ZG S 8 (by kernel_rfl) (by kernel_rfl) (St.drew hS) ?_;clear hS;simp only[L0,LE,Lz,LA]
     iterate 4 (refine Qg rfl ?_ (λW hW=>?_) ?_;rotate_left;(focus(go_simp;exact rfl));simp only[Act.put,Qa,Qb,Qc])
     (refine Qg rfl ?_ (λW hW=>?_) ?_;rotate_left;(focus(have c:=S2.out W hW;go_simp;exact rfl));simp only[Act.put,Qa,Qb,Qc])
     iterate 3 (refine Qg rfl ?_ (λW hW=>?_) ?_;rotate_left;(focus(go_simp;exact rfl));simp only[Act.put,Qa,Qb,Qc])
     refine Q4 λw6 bs=>?_
     have b9:=Lh (S0.out w6 bs);have a6:=Lh (S1.out w6 bs);clear bs de S0 S1 S2;go_wp2_with fail
     refine(Ua q 0 x 0 w6 a6.out).mono ?_;rintro e w8 ⟨rfl,w7,b0,o1,r1⟩;have o:=Lh ((b9.out.go b0).only o1 (a6.out.below b0 a6.out.lt) (by decide) cf bw bl.out);have l:Hid (Row w8 q 3 (Qi ((Zk p.V args fuel.toNat).cont u.length t)).toArray):=by rw[a7.out,ay.out];exact r1
     clear b0 o1 r1 b9 a6 ay a7 gm cn co;have ai:=o.out.go (W':=w8.alloc (.cells #[(.iface 163 (.agg #[.pointer (some ⟨q,0,none⟩)]))] 160)) ((Below.refl _ _).alloc (Nat.le_refl _) _);have ak:=l.out.below (w':=w8.alloc (.cells #[(.iface 163 (.agg #[.pointer (some ⟨q,0,none⟩)]))] 160)) ((Below.refl _ _).alloc (Nat.le_refl _) _) l.out.lt;have c1:=o.out.row.cellv (i:=1) (v:=cv) rfl;have d:=Lh ai;have ag:=Lh ak;clear ai ak o l;obtain⟨i0,al,y,am,an⟩:=info_parts Vf;go_wp2_with (at_builtin;refine Uv ?_)
     refine Stop.to ?_;refine(wpList_append_own_at _ rfl (.tmp 61) (.tmp 63) 154 rfl Bk 160 i0 .nilIface 1 16 Tryz.underlying154 al y am an rfl (by decide) cv u.length _ rfl d.out.cv ⟨w8.heap.size,0,none⟩ 1 1 [(.iface 163 (.agg #[.pointer (some ⟨q,0,none⟩)]))] rfl rfl (cell_one_new _ _ _) (by simp[Value.oneCell']) (by unfold maxLen;omega) (by omega) d.out.size ?_);intro z W6 j ac _ _;have r6:=d.out.row.grown ac (Qz d.out.cv d.out.row (by decide));have ae:=Jj j;rw[<-ax.out]at j;have R6:=Lh r6;have s:=Lh j;have af:=Lh ac;clear r6 j ac c1 al y am an i0;go_wp2_with (refine Qs _ _ _ rfl ?_)
     refine Stop.to ?_;refine Qm rfl 154 _ _ rfl M 1 rfl _ rfl [z] (by cases z<;>first|rfl|cases ae) 156 _ (Ke p z fuel) R6.out (by kernel_rfl) (by show 1+1<=7;omega) (by simpa using ae) rfl ?_
     intro W7 r7 o7;have a2:=Lh (d.out.more (by omega) Ht.out ag.out bw bl.out (by simpa using s.out) af.out o7 r7 bc);clear r7 o7 ae R6 s af d ag;go_wp2_with fail
     go_roundw
     case rel=>exact⟨u.length+1,by go_num,by omega,a2⟩
     case measure=>simp[intOf];omega
    ·have ay:Hid ([args.getD u.length 0]=[0]):=by
       show _=_;have:=be.out;rw[LJ,Nh (by omega)];rfl
     replace l:Hid (Row w5 q 3 (Qi ((Zk p.V args fuel.toNat).cont u.length t)).toArray):=by rw[a7.out,ay.out];exact l.out
     clear ay a7 ar;have ai:=o.out.go (W':=w5.alloc (.cells #[(.iface 163 (.agg #[.pointer (some ⟨q,0,none⟩)]))] 160)) ((Below.refl _ _).alloc (Nat.le_refl _) _);have ak:=l.out.below (w':=w5.alloc (.cells #[(.iface 163 (.agg #[.pointer (some ⟨q,0,none⟩)]))] 160)) ((Below.refl _ _).alloc (Nat.le_refl _) _) l.out.lt;have c1:=o.out.row.cellv (i:=1) (v:=cv) rfl;have d:=Lh ai;have ag:=Lh ak;clear ai ak o l;obtain⟨i0,al,y,am,an⟩:=info_parts Vf;go_wp2_with (at_builtin;refine Uv ?_)
     refine Stop.to ?_;refine(wpList_append_own_at _ rfl (.tmp 61) (.tmp 63) 154 rfl Bk 160 i0 .nilIface 1 16 Tryz.underlying154 al y am an rfl (by decide) cv u.length _ rfl d.out.cv ⟨w5.heap.size,0,none⟩ 1 1 [(.iface 163 (.agg #[.pointer (some ⟨q,0,none⟩)]))] rfl rfl (cell_one_new _ _ _) (by simp[Value.oneCell']) (by unfold maxLen;omega) (by omega) d.out.size ?_);intro z W6 j ac _ _;have r6:=d.out.row.grown ac (Qz d.out.cv d.out.row (by decide));have ae:=Jj j;rw[<-ax.out]at j;have R6:=Lh r6;have s:=Lh j;have af:=Lh ac;clear r6 j ac c1 al y am an i0;go_wp2_with (refine Qs _ _ _ rfl ?_)
     refine Stop.to ?_;refine Qm rfl 154 _ _ rfl M 1 rfl _ rfl [z] (by cases z<;>first|rfl|cases ae) 156 _ (Ke p z fuel) R6.out (by kernel_rfl) (by show 1+1<=7;omega) (by simpa using ae) rfl ?_
     intro W7 r7 o7;have a2:=Lh (d.out.more (by omega) Ht.out ag.out bw bl.out (by simpa using s.out) af.out o7 r7 bc);clear r7 o7 ae R6 s af d ag;go_wp2_with fail
     go_roundw
     case rel=>exact⟨u.length+1,by go_num,by omega,a2⟩
     case measure=>simp[intOf];omega
   ·have e0:((n:Int)==0)=false:=by simp;omega
    rw[ah.out]
    have db:¬((u.length:Int)<p.params):=by
     have:=bo.out.2.2.2 u.length bx;rw[LJ,Ht.out]at this;simp only[LL,Yp,decide_eq_true_eq]at this;rcases this with h|h
     ·subst h;have:=ah.out;simp[QC]at this;omega
     ·omega
    have hz:QC t≠0:=by rw[ah.out];omega
    have ax:Hid (JL t wr.heap.size=.iface 157 (.slice (some ⟨wr.heap.size,0,none⟩) n n)):=by
     show _=_;unfold JL;rw[if_neg hz,ah.out,Ln]
    have l:Hid (Row ao wr.heap.size 3 (Qi ((Zk p.V args fuel.toNat).cont u.length t)).toArray):=by
     show Row _ _ _ _;rw[AhR Ht.out hz,ah.out,Ln];exact bj.out
    have o:=Lh ap.out;clear hz bj ap az cp;obtain⟨q,au⟩:∃q,wr.heap.size=q:=⟨_,rfl⟩;rw[au]at ax l bm a4|-;clear au;have ai:=o.out.go (W':=ao.alloc (.cells #[(.iface 157 (.slice (some ⟨q,0,none⟩) n n))] 160)) ((Below.refl _ _).alloc (Nat.le_refl _) _);have ak:=l.out.below (w':=ao.alloc (.cells #[(.iface 157 (.slice (some ⟨q,0,none⟩) n n))] 160)) ((Below.refl _ _).alloc (Nat.le_refl _) _) l.out.lt;have c1:=o.out.row.cellv (i:=1) (v:=cv) rfl;have d:=Lh ai;have ag:=Lh ak;clear ai ak o l;obtain⟨i0,al,y,am,an⟩:=info_parts Vf;go_wp2_with (at_builtin;refine Uv ?_)
    refine Stop.to ?_;refine(wpList_append_own_at _ rfl (.tmp 61) (.tmp 63) 154 rfl Bk 160 i0 .nilIface 1 16 Tryz.underlying154 al y am an rfl (by decide) cv u.length _ rfl d.out.cv ⟨ao.heap.size,0,none⟩ 1 1 [(.iface 157 (.slice (some ⟨q,0,none⟩) n n))] rfl rfl (cell_one_new _ _ _) (by simp[Value.oneCell']) (by unfold maxLen;omega) (by omega) d.out.size ?_);intro z W6 j ac _ _;have r6:=d.out.row.grown ac (Qz d.out.cv d.out.row (by decide));have ae:=Jj j;rw[<-ax.out]at j;have R6:=Lh r6;have s:=Lh j;have af:=Lh ac;clear r6 j ac c1 al y am an i0;go_wp2_with (refine Qs _ _ _ rfl ?_)
    refine Stop.to ?_;refine Qm rfl 154 _ _ rfl M 1 rfl _ rfl [z] (by cases z<;>first|rfl|cases ae) 156 _ (Ke p z fuel) R6.out (by kernel_rfl) (by show 1+1<=7;omega) (by simpa using ae) rfl ?_
    intro W7 r7 o7;have a2:=Lh (d.out.more (by omega) Ht.out ag.out a4 bm.out (by simpa using s.out) af.out o7 r7 bc);clear r7 o7 ae R6 s af d ag;go_wp2_with fail
    go_roundw
    case rel=>exact⟨u.length+1,by go_num,by omega,a2⟩
    case measure=>simp[intOf];omega
  ·obtain rfl:k=p.V.length:=by omega
   obtain⟨L,c8,c9,c7,hL,hR,hN,aq⟩:=AgD cc.out a9.out Hf.out br bc a5.out B1.out hK.out c6.out cg;have HL:=Lh hL;have HR:=Lh hR;have HN:=Lh hN;have ca:=Lh aq;have BW:=Lh (B1.out.trans ((show ChM M Bk W1 wr from by obtain⟨_,_,_,_,_,_,_,_,aw⟩:=hK.out.ex;exact aw).to_below (by have:=B1.out.size;have:=a5.out;omega) br));subst c8;subst c9;clear bx hk hK hL hR hN aq c7;have hE:=(Big.dir L HL.out cb.out cy.out c4.out (by simp[Zk]) rfl).1;have Hw:=Lh (AgA L HL.out t _ s' v _ wr HR.out Hg.out.hat hE);clear hE;go_wp2_with fail
   refine Hw.out.mono ?_;rintro e W2 ⟨he,a1,bz,bu⟩;have cs:=ca.out.go bu;have cj:=bu.new HN.out BW.out.size;have b6:(s'.stopped 3 0).steps=s'.steps:=by unfold Ms.stopped;split<;>rfl
   have bv:(s'.stopped 3 0).evs=s'.evs:=by unfold Ms.stopped;split<;>rfl
   obtain⟨sf,b5⟩:∃sf,s'.stopped 3 0=sf:=⟨_,rfl⟩;rw[b5]at b6 bv he;subst he;have c5:=Lh b6;have c3:=Lh b5;clear b5;have cw:=Lh bv;have c0:=Lh (Jj bz.evs);have a8:=Lh bz;have bd:=Lh cs;have b8:=Lh (BW.out.trans cj);clear b6 bv bz cs cj bu Hw;go_wp2_with (refine Qs _ _ _ rfl ?_)
   refine Stop.to ?_;refine Qm rfl 52 _ _ rfl L.M 3 rfl _ rfl [.int .i64 (sf.out.getD (0,0)).1,.int .i64 (sf.out.getD (0,0)).2] rfl 156 _ #[.slice L.p.ba L.p.body.length L.p.bcap,.slice L.aa L.ab.length L.acap,.int .i64 (L.F:Int),.int .i64 (sf.out.getD (0,0)).1,.int .i64 (sf.out.getD (0,0)).2,.int .i64 (s'.steps:Int),a1] a8.out.row (by kernel_rfl) (by show 3+2<=7;omega) (by simp[Value.oneCell']) rfl ?_;intro W7 r7 o7;have R7:=Lh r7;have cd:=Lh (bd.out.only o7 ca.out.m);have bg:=Lh (Qx a8.out.evs o7 (λe=>by have:=QQ a8.out.evs e;have:=HL.out.lt;omega));have B7:=Lh (Qp b8.out o7 HN.out.m);clear r7 o7 bd b8 a8
   go_wp2_with (first
    | (refine QT rfl 114 _ rfl ⟨L.M,3,none⟩ rfl [.int .i64 (sf.out.getD (0,0)).1,.int .i64 (sf.out.getD (0,0)).2,.int .i64 (s'.steps:Int),a1] _ (AkX R7.out) Tryz.underlying114 rfl (by kernel_rfl) ?_)
    | (refine Qs _ _ _ rfl ?_))
   refine Stop.to ?_;refine Qk rfl 114 _ _ rfl RB #[.int .i64 (sf.out.getD (0,0)).1,.int .i64 (sf.out.getD (0,0)).2,.int .i64 (s'.steps:Int),a1] rfl rfl 114 _ cd.out (by kernel_rfl) rfl (XE _ _ _ c0.out) ?_;intro W9 r9 o9;go_wp2_with fail
   refine bodyPost_ret (QZ Tryz.results57 _ _ RB 114 _ (0,0) _ rfl r9 Tryz.underlying114 rfl (by kernel_rfl)) rfl ?_;rw[c3.out, <-c5.out];refine⟨a1,rfl,?_,Qp B7.out o9 ci⟩;show W9.ownsRow w.heap.size 263 3 a1 sf.evs.length (sf.evs.flatMap EvV.cells);rw[cw.out];exact QR (Qx bg.out o9 (Qz bg.out cd.out (by decide))) HN.out.b1
end Go.Proofs.YtkoikjnlpifbjaaGreat
