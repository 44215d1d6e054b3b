/- Lemmas for ArAll. -/
import Derived.Test.YtgnmkiafeplbpaaGreatDoorZf1
import Derived.Test.YtgnmkiafeplbpaaGreatDoorZf11
import Derived.Test.YtgnmkiafeplbpaaGreatDoorZf7
import Derived.Test.YtgnmkiafeplbpaaGreatDoorZf6
set_option linter.unusedVariables false
set_option linter.unusedSimpArgs false
set_option maxRecDepth 100000
set_option maxHeartbeats 16000000
namespace Go.Proofs.YtgnmkiafeplbpaaGreatDoor
open Go.RowKit Go.Deep
structure MtV where
 A:Option Addr
 cap:Nat
 m:Mt
def MtV.dl (x:MtV):DlV:=⟨x.A,x.cap,x.m.d⟩
def MtV.cells (x:MtV):List Value:=[.slice x.A x.m.d.path.length x.cap,.int .i64 x.m.d.op,.int .i64 x.m.d.n,.int .i64 x.m.verdict,.int .i64 x.m.test,.int .i64 x.m.kind,.int .i64 x.m.value,.string ⟨x.m.digest.toArray⟩]
structure MtOk (W:World)(x:MtV):Prop where
 rd:Rd W x.A (Qj x.m.d.path)
 len:x.m.d.path.length<=1000000
 nil:x.A=none->x.m.d.path=[]
 dig:x.m.digest.length<=1000000
theorem MtOk.go{W W':World}{x:MtV}(h:MtOk W x)(b:Below W.heap.size W W'):MtOk W' x:=⟨Rd.go h.rd b,h.len,h.nil,h.dig⟩
theorem MtOk.dl{W:World}{x:MtV}(h:MtOk W x):DlOk W x.dl:=⟨h.rd,h.len⟩
instance St.mtok{x:MtV}:St (λW=>MtOk W x):=⟨λh b=>h.go b⟩
instance St.mtsok{l:List MtV}:St (λW=>∀x∈l,MtOk W x):=⟨λh b x hx=>(h x hx).go b⟩
theorem Acw{W:World}{G:Nat}{t:TypeId}{x:MtV}(h:Row W G t x.cells.toArray):∀j v,x.dl.cells.toList[j]? =some v->W.cell? ((⟨G,0,none⟩:Addr).add j)=some v:=
 Row.from_ (cur:=x.cells.toArray) h 0 (λj v hj=>by
  match j,hj with
  |0,hj|1,hj|2,hj=>exact hj
  |j+3,hj=>simp[DlV.cells]at hj)
theorem EL (a b:Mt):(¬Zw a.d b.d=0->Kf a b=false)/\(¬a.verdict=b.verdict->Kf a b=false)/\(¬a.test=b.test->Kf a b=false)/\(¬a.kind=b.kind->Kf a b=false)/\(¬a.value=b.value->Kf a b=false)/\(Zw a.d b.d=0->a.verdict=b.verdict->a.test=b.test->a.kind=b.kind->a.value=b.value->Kf a b=(a.digest==b.digest)):=by
 unfold Kf;refine⟨λh=>?_,λh=>?_,λh=>?_,λh=>?_,λh=>?_,λc g i j k=>?_⟩
 all_goals(first|simp[h];done| (simp[c,g,i,j,k];by_cases e:a.digest=b.digest<;>simp[e]))
theorem Af1 (x y:MtV)(w:World)(hx:MtOk w x)(hy:MtOk w y):
 Calls Tryz.prog 82 #[.agg x.cells.toArray,.agg y.cells.toArray] w λe w'=>e=.returned (.bool (Kf x.m y.m))/\Below w.heap.size w w':=by
 have Ha:=Lv hx;have Hb:=Lv hy;clear hx hy;go_enter Tryz.func82,Tryz.ntmps82
 go_wp2_with (refine Qx _ _ rfl ?_)
 refine Stop.to ?_;refine Qf rfl 95 _ rfl x.cells.toArray rfl ?_;intro G Gw Gh p Gb;go_wp2_with (refine Qx _ _ rfl ?_)
 refine Stop.to ?_;refine Qf rfl 95 _ rfl y.cells.toArray rfl ?_;intro J Jw s l q;have k:=p.below q (Lg p.lt s);have t:=(Below.refl w.heap.size w).trans (Gb.mono Gh);have h:=t.trans ((q.mono s).mono t.size);have Hs:=Lv (AfC x.dl y.dl Jw (Ha.out.go h).dl (Hb.out.go h).dl);go_wp2_with (first| (refine Qn rfl 91 _ rfl ⟨G,0,none⟩ rfl x.dl.cells.toList _ (Acw k) Tryz.underlying91 rfl (by kernel_rfl) ?_)| (refine Qn rfl 91 _ rfl ⟨J,0,none⟩ rfl y.dl.cells.toList _ (Acw l) Tryz.underlying91 rfl (by kernel_rfl) ?_))
 refine Hs.out.mono ?_;rintro e w1 ⟨rfl,n⟩;have c:=k.below n (by have:=k.lt;exact k.lt);have g:=l.below n l.lt;have c1:=c.cellv (i:=3) (v:=.int .i64 x.m.verdict) rfl;have c2:=c.cellv (i:=4) (v:=.int .i64 x.m.test) rfl;have c3:=c.cellv (i:=7) (v:=.string ⟨x.m.digest.toArray⟩) rfl;have d1:=g.cellv (i:=3) (v:=.int .i64 y.m.verdict) rfl;have d2:=g.cellv (i:=4) (v:=.int .i64 y.m.test) rfl;have d3:=g.cellv (i:=7) (v:=.string ⟨y.m.digest.toArray⟩) rfl;have c5:=c.cellv (i:=5) (v:=.int .i64 x.m.kind) rfl;have c6:=c.cellv (i:=6) (v:=.int .i64 x.m.value) rfl;have d5:=g.cellv (i:=5) (v:=.int .i64 y.m.kind) rfl;have d6:=g.cellv (i:=6) (v:=.int .i64 y.m.value) rfl;have b:=h.trans (n.mono h.size);clear Ha Hb Hs k p Gb l q t h n Gh s c g;have a:=Lv (EL x.m y.m);by_cases h1:Zw x.dl.d y.dl.d=0;rotate_left
 ·go_wp2_with fail
  go_ret
  exact⟨QD (a.out.1 h1),b⟩
 by_cases h2:x.m.verdict=y.m.verdict;rotate_left
 ·go_wp2_with fail
  go_ret
  exact⟨QD (a.out.2.1 h2),b⟩
 by_cases h3:x.m.test=y.m.test;rotate_left
 ·go_wp2_with fail
  go_ret
  exact⟨QD (a.out.2.2.1 h3),b⟩
 by_cases o:x.m.kind=y.m.kind;rotate_left
 ·have u:=Lv o;have j:(x.m.kind==y.m.kind)=false:=by simpa using o
  clear o;go_wp2_with fail
  go_ret
  exact⟨QD (a.out.2.2.2.1 u.out),b⟩
 by_cases j:x.m.value=y.m.value;rotate_left
 ·have z:=Lv j;have h6:(x.m.value==y.m.value)=false:=by simpa using j
  clear j;go_wp2_with fail
  go_ret
  exact⟨QD (a.out.2.2.2.2.1 z.out),b⟩
 ·go_wp2_with fail
  go_ret
  exact⟨QD (a.out.2.2.2.2.2 h1 h2 h3 o j),b⟩
theorem AbP (x y:MtV)(w:World)(hx:MtOk w x)(hy:MtOk w y):
 Calls Tryz.prog 126 #[.agg x.cells.toArray,.agg y.cells.toArray] w λe w'=>e=.returned (.bool (Kf x.m y.m))/\Below w.heap.size w w':=by
 have Ha:=Lv hx;have Hb:=Lv hy;clear hx hy;go_enter Tryz.func126,Tryz.ntmps126
 go_wp2_with (refine Qx _ _ rfl ?_)
 refine Stop.to ?_;refine Qf rfl 95 _ rfl x.cells.toArray rfl ?_;intro G Gw Gh p Gb;go_wp2_with (refine Qx _ _ rfl ?_)
 refine Stop.to ?_;refine Qf rfl 95 _ rfl y.cells.toArray rfl ?_;intro J Jw s l q;have k:=p.below q (Lg p.lt s);have t:=(Below.refl w.heap.size w).trans (Gb.mono Gh);have h:=t.trans ((q.mono s).mono t.size);have Hs:=Lv (Adr x.dl y.dl Jw (Ha.out.go h).dl (Hb.out.go h).dl);go_wp2_with (first| (refine Qn rfl 91 _ rfl ⟨G,0,none⟩ rfl x.dl.cells.toList _ (Acw k) Tryz.underlying91 rfl (by kernel_rfl) ?_)| (refine Qn rfl 91 _ rfl ⟨J,0,none⟩ rfl y.dl.cells.toList _ (Acw l) Tryz.underlying91 rfl (by kernel_rfl) ?_))
 refine Hs.out.mono ?_;rintro e w1 ⟨rfl,n⟩;have c:=k.below n (by have:=k.lt;exact k.lt);have g:=l.below n l.lt;have c1:=c.cellv (i:=3) (v:=.int .i64 x.m.verdict) rfl;have c2:=c.cellv (i:=4) (v:=.int .i64 x.m.test) rfl;have c3:=c.cellv (i:=7) (v:=.string ⟨x.m.digest.toArray⟩) rfl;have d1:=g.cellv (i:=3) (v:=.int .i64 y.m.verdict) rfl;have d2:=g.cellv (i:=4) (v:=.int .i64 y.m.test) rfl;have d3:=g.cellv (i:=7) (v:=.string ⟨y.m.digest.toArray⟩) rfl;have c5:=c.cellv (i:=5) (v:=.int .i64 x.m.kind) rfl;have c6:=c.cellv (i:=6) (v:=.int .i64 x.m.value) rfl;have d5:=g.cellv (i:=5) (v:=.int .i64 y.m.kind) rfl;have d6:=g.cellv (i:=6) (v:=.int .i64 y.m.value) rfl;have b:=h.trans (n.mono h.size);clear Ha Hb Hs k p Gb l q t h n Gh s c g;have a:=Lv (EL x.m y.m);by_cases u:Zw x.dl.d y.dl.d=0;rotate_left
 ·have ab:(Zw x.dl.d y.dl.d==0)=false:=by simpa using u
  go_wp2_with fail
  go_ret
  exact⟨QD (a.out.1 u),b⟩
 by_cases h2:x.m.verdict=y.m.verdict;rotate_left
 ·go_wp2_with fail
  go_ret
  exact⟨QD (a.out.2.1 h2),b⟩
 by_cases h3:x.m.test=y.m.test;rotate_left
 ·go_wp2_with fail
  go_ret
  exact⟨QD (a.out.2.2.1 h3),b⟩
 by_cases o:x.m.kind=y.m.kind;rotate_left
 ·have z:=Lv o;have j:(x.m.kind==y.m.kind)=false:=by simpa using o
  clear o;go_wp2_with fail
  go_ret
  exact⟨QD (a.out.2.2.2.1 z.out),b⟩
 by_cases j:x.m.value=y.m.value;rotate_left
 ·have aa:=Lv j;have h6:(x.m.value==y.m.value)=false:=by simpa using j
  clear j;go_wp2_with fail
  go_ret
  exact⟨QD (a.out.2.2.2.2.1 aa.out),b⟩
 ·go_wp2_with fail
  go_ret
  exact⟨QD (a.out.2.2.2.2.2 u h2 h3 o j),b⟩
theorem Agz{α:Type}{c:α->List Value}{sz:Nat}(hsz:∀x,(c x).length=sz)(h0:0<sz){W:World}{A:Option Addr}{l:List α}(hr:Rd W A (l.flatMap c)){k:Nat}{x:α}(hx:l[k]? =some x):
 ∃ad,A=some ad/\∀j u,(c x)[j]? =some u->W.cell? ((ad.add (k*sz)).add j)=some u:=by
 have b:∀(l:List α) (k:Nat) (x:α),l[k]? =some x->∀j u,(c x)[j]? =some u->(l.flatMap c)[k*sz+j]? =some u:=by
  intro l
  induction l with
  |nil=>intro k x h;simp at h
  |cons y l ih=>
   intro k x h j u a;rw[LF]
   match k,h with
   |0,h=>
    simp at h;subst h;rw[Nat.zero_mul,LS,LQ (Lf.1 a).1];exact a
   |k+1,h=>
    rw[LU]at h;rw[LZ (by rw[hsz,Nat.add_mul];omega),hsz,show(k+1)*sz+j-sz=k*sz+j by rw[Nat.add_mul];omega];exact ih k x h j u a
 exact hr.part (k*sz) (c x) (b l k x hx) (λe=>by have:=hsz x;rw[e]at this;simp at this;omega)
theorem AaC (A B:Option Addr)(c d na nb:Nat)(a b:List Int)(w:World)(hna:na=a.length)(hnb:nb=b.length)(ha:Rd w A (Qj a))(hb:Rd w B (Qj b))(hla:a.length<=1000000):
 Calls Tryz.prog 157 #[.slice A na c,.slice B nb d] w λe w'=>e=.returned (.bool (decide (a=b)))/\Below w.heap.size w w':=by
 by_cases hl:na=nb;rotate_left
 ·have ak:((na:Int) != (nb:Int))=true:=by simp;omega
  have v:a≠b:=λe=>hl (by rw[hna,hnb,e])
  have p:Hid (decide (a=b)=false):=by show _=_;simp[v]
  clear hl hna hnb v ha hb hla;go_enter Tryz.func157,Tryz.ntmps157
  go_wp2
  go_ret
  exact⟨QD p.out,Below.refl _ _⟩
 subst hl;have Ha:=Lv hna;have Hb:=Lv hnb;have al:(na:Int)<=1000000:=by omega
 clear hna hnb hla;obtain⟨S,j⟩:∃S,S=(λW=>Rd W A (Qj a)/\Rd W B (Qj b)/\Below w.heap.size w W):=⟨_,rfl⟩;have am:St S:=by rw[j];infer_instance
 have s:Hid (∀W,S W->Rd W A (Qj a)):=by show ∀W,_;rw[j];exact λW h=>h.1
 have t:Hid (∀W,S W->Rd W B (Qj b)):=by show ∀W,_;rw[j];exact λW h=>h.2.1
 have u:Hid (∀W,S W->Below w.heap.size w W):=by show ∀W,_;rw[j];exact λW h=>h.2.2
 have l:S w:=by rw[j];exact⟨ha,hb,Below.refl _ _⟩
 clear j ha hb;go_enter Tryz.func157,Tryz.ntmps157
 go_wp2
 go_loopw [13] (λi wr=>∃k:Nat,i=.int .i64 (k:Int)/\k<=na/\Hid (a.take k=b.take k)/\S wr) (λi _=>na-(intOf i).toNat)
 case atStart=>exact⟨0,by simp,Nat.zero_le _,by simp[Hid],l⟩
 case round=>
  clear l;obtain⟨k,rfl,hk,z,l⟩:=hrel;by_cases ag:k<na
  ·obtain⟨e,he⟩:∃e,a[k]? =some e:=⟨_,Ld (by have:=Ha.out;omega)⟩;obtain⟨f,hf⟩:∃f,b[k]? =some f:=⟨_,Ld (by have:=Hb.out;omega)⟩;obtain⟨ad,ae,_⟩:=Q4 (s.out _ l) he;obtain⟨bd,af,_⟩:=Q4 (t.out _ l) hf;subst ae af
   have n:Hid (∀W,S W->W.cell? (ad.add k)=some (.int .i64 e)):=λW h=>by
    obtain⟨ac,g,h2⟩:=Q4 (s.out _ h) he;injection g with g;subst g;exact h2
   have o:Hid (∀W,S W->W.cell? (bd.add k)=some (.int .i64 f)):=λW h=>by
    obtain⟨ac,g,h2⟩:=Q4 (t.out _ h) hf;injection g with g;subst g;exact h2
   have x:=Lv he;have y:=Lv hf;have ai:(k:Int)<(na:Int):=by omega
   have aj:IntKind.i64.wrap ((k:Int)+1)=(k:Int)+1:=IntWalk.i64_in _ (by omega);clear he hf;go_wp2
   refine QG S (by kernel_rfl) (by kernel_rfl) (St.drew l) ?_;clear l
   iterate 3 (refine Qe rfl ?_ (λW q=>?_) ?_;rotate_left;(focus(go_simp;exact rfl));simp only[Act.put,Qa,Qb,Qc])
   (refine Qe rfl ?_ (λW q=>?_) ?_;rotate_left;(focus(have c:=n.out W q;go_simp;exact rfl));simp only[Act.put,Qa,Qb,Qc])
   iterate 3 (refine Qe rfl ?_ (λW q=>?_) ?_;rotate_left;(focus(go_simp;exact rfl));simp only[Act.put,Qa,Qb,Qc])
   (refine Qe rfl ?_ (λW q=>?_) ?_;rotate_left;(focus(have c:=o.out W q;go_simp;exact rfl));simp only[Act.put,Qa,Qb,Qc]);(refine Qe rfl ?_ (λW q=>?_) ?_;rotate_left;(focus(go_simp;exact rfl));simp only[Act.put,Qa,Qb,Qc]);refine QE λW l=>?_
   by_cases m:e=f
   ·subst m;have ah:(e != e)=false:=by simp
    have ab:Hid (a.take (k+1)=b.take (k+1)):=by
     show _=_;rw[L5,L5,z.out,x.out,y.out]
    clear n o x y z;go_wp2
    go_roundw
    case rel=>exact⟨k+1,by go_num,by omega,ab,l⟩
    case measure=>simp[intOf];omega
   ·have ah:(e != f)=true:=by simpa using m
    have p:Hid (decide (a=b)=false):=by
     show _=_
     have:a≠b:=λh=>m (by
      have g:=x.out
      rw[h,y.out]at g
      exact(Option.some.inj g).symm)
     simp[this]
    clear n o x y z m;go_wp2
    go_ret
    exact⟨QD p.out,u.out _ l⟩
  ·obtain rfl:k=na:=by omega
   have aa:Hid (decide (a=b)=true):=by
    show _=_;have g:=z.out;rw[Lm (by have:=Ha.out;omega),Lm (by have:=Hb.out;omega)]at g;simp[g]
   clear ag hk;go_wp2
   go_ret
   exact⟨QD aa.out,u.out _ l⟩
theorem Al8{x y:Nd}(h1:x.tag=y.tag)(h2:x.n=y.n):x=y:=by cases x;cases y;simp_all
instance:DecidableEq Nd:=λx y=>decidable_of_iff (x.tag=y.tag/\x.n=y.n) ⟨λh=>Al8 h.1 h.2,λh=>by rw[h];exact⟨rfl,rfl⟩⟩
def ET (l:List Nd):List Value:=l.flatMap Nd.cells
theorem AjI (x y:Nd)(W:World):(binOp .neq 52 (.agg x.cells.toArray) (.agg y.cells.toArray)).run Tryz.prog W=.ok (.bool (!(x.tag==y.tag && x.n==y.n))) W:=by
 simp[go_sem,Nd.cells];by_cases a:x.tag=y.tag<;>by_cases b:x.n=y.n<;>simp[a,b]
theorem Acz (x y:Nd)(W:World):(binOp .neq 52 (.agg x.cells.toArray) (.agg y.cells.toArray)).run Tryz.prog W=.ok (.bool (!decide (x=y))) W:=by
 rw[AjI];by_cases h:x=y
 ·subst h;simp
 ·have:(x.tag==y.tag && x.n==y.n)=false:=by
    by_cases a:x.tag=y.tag
    ·by_cases b:x.n=y.n
     ·exact absurd (Al8 a b) h
     ·simp[b]
    ·simp[a]
  rw[this];simp[h]
theorem KU{P:Program}{ρ:Operand->Value}{o:Oper}{x y:Operand}{t u:TypeId}{vx vy v:Value}{W:World}(ho:o.op=.binOp .neq t x y u)(hx:ρ x=vx)(hy:ρ y=vy)(hg:(eqGuard .neq t x y vx vy).run P W=.ok () W)(hv:(binOp .neq t vx vy).run P W=.ok v W):(execOp ρ o).run P W=.ok (.value v) W:=by
 simp only[execOp,ho,hx,hy,Sem.run_bind,Sem.run_pure,hg,hv,Result.andThen_ok]
theorem Ad7 (A B:Option Addr)(c d na nb:Nat)(a b:List Nd)(w:World)(hna:na=a.length)(hnb:nb=b.length)(ha:Rd w A (ET a))(hb:Rd w B (ET b))(hla:a.length<=1000000):
 Calls Tryz.prog 158 #[.slice A na c,.slice B nb d] w λe w'=>e=.returned (.bool (decide (a=b)))/\Below w.heap.size w w':=by
 by_cases hl:na=nb;rotate_left
 ·have ak:((na:Int) != (nb:Int))=true:=by simp;omega
  have aa:a≠b:=λe=>hl (by rw[hna,hnb,e])
  have v:Hid (decide (a=b)=false):=by show _=_;simp[aa]
  clear hl hna hnb aa ha hb hla;go_enter Tryz.func158,Tryz.ntmps158
  go_wp2
  go_ret
  exact⟨QD v.out,Below.refl _ _⟩
 subst hl;have Ha:=Lv hna;have Hb:=Lv hnb;have al:(na:Int)<=1000000:=by omega
 clear hna hnb hla;obtain⟨S,m⟩:∃S,S=(λW=>Rd W A (ET a)/\Rd W B (ET b)/\Below w.heap.size w W):=⟨_,rfl⟩;have am:St S:=by rw[m];infer_instance
 have x:Hid (∀W,S W->Rd W A (ET a)):=by show ∀W,_;rw[m];exact λW h=>h.1
 have y:Hid (∀W,S W->Rd W B (ET b)):=by show ∀W,_;rw[m];exact λW h=>h.2.1
 have z:Hid (∀W,S W->Below w.heap.size w W):=by show ∀W,_;rw[m];exact λW h=>h.2.2
 have g:S w:=by rw[m];exact⟨ha,hb,Below.refl _ _⟩
 clear m ha hb;go_enter Tryz.func158,Tryz.ntmps158
 go_wp2
 go_loopw [13] (λi wr=>∃k:Nat,i=.int .i64 (k:Int)/\k<=na/\Hid (a.take k=b.take k)/\S wr) (λi _=>na-(intOf i).toNat)
 case atStart=>exact⟨0,by simp,Nat.zero_le _,by simp[Hid],g⟩
 case round=>
  clear g;obtain⟨k,rfl,hk,Hk,g⟩:=hrel;by_cases ah:k<na
  ·obtain⟨e,he⟩:∃e,a[k]? =some e:=⟨_,Ld (by have:=Ha.out;omega)⟩;obtain⟨f,hf⟩:∃f,b[k]? =some f:=⟨_,Ld (by have:=Hb.out;omega)⟩;obtain⟨ad,af,_⟩:=JG (x.out _ g) he;obtain⟨bd,ag,_⟩:=JG (y.out _ g) hf;subst af ag
   have q:Hid (∀W,S W->∀j u,e.cells[j]? =some u->W.cell? ((ad.add (k*2)).add j)=some u):=λW h=>by
    obtain⟨ae,l,h2⟩:=JG (x.out _ h) he;injection l with l;subst l;exact h2
   have s:Hid (∀W,S W->∀j u,f.cells[j]? =some u->W.cell? ((bd.add (k*2)).add j)=some u):=λW h=>by
    obtain⟨ae,l,h2⟩:=JG (y.out _ h) hf;injection l with l;subst l;exact h2
   have He:=Lv he;have Hf:=Lv hf;have ai:(k:Int)<(na:Int):=by omega
   have aj:IntKind.i64.wrap ((k:Int)+1)=(k:Int)+1:=IntWalk.i64_in _ (by omega);clear he hf;have t:=Lv (Acz e f);by_cases o:e=f
   ·have p:∀W,(binOp .neq 52 (.agg e.cells.toArray) (.agg f.cells.toArray)).run Tryz.prog W=.ok (.bool false) W:=λW=>by rw[t.out];simp[o]
    have n:=Lv p;clear p t;go_wp2
    refine QG S (by kernel_rfl) (by kernel_rfl) (St.drew g) ?_;clear g
    iterate 3 (refine Qe rfl ?_ (λW hW=>?_) ?_;rotate_left;(focus(go_simp;exact rfl));simp only[Act.put,Qa,Qb,Qc])
    (refine QW rfl 52 _ rfl ((ad.add (k*2))) rfl e.cells _ q.out Tryz.underlying52 rfl (by kernel_rfl) ?_;simp only[Act.put,Qa,Qb,Qc])
    iterate 3 (refine Qe rfl ?_ (λW hW=>?_) ?_;rotate_left;(focus(go_simp;exact rfl));simp only[Act.put,Qa,Qb,Qc])
    (refine QW rfl 52 _ rfl ((bd.add (k*2))) rfl f.cells _ s.out Tryz.underlying52 rfl (by kernel_rfl) ?_;simp only[Act.put,Qa,Qb,Qc]);(refine Qe rfl (.bool false) (λW hW=>KU (vx:=.agg e.cells.toArray) (vy:=.agg f.cells.toArray) rfl rfl rfl (by go_simp) (n.out W)) ?_;simp only[Act.put,Qa,Qb,Qc]);refine QE λW g=>?_
    clear n;subst o
    have ac:Hid (a.take (k+1)=b.take (k+1)):=by
     show _=_;rw[L5,L5,Hk.out,He.out,Hf.out]
    clear q s He Hf Hk;go_wp2
    go_roundw
    case rel=>exact⟨k+1,by go_num,by omega,ac,g⟩
    case measure=>simp[intOf];omega
   ·have p:∀W,(binOp .neq 52 (.agg e.cells.toArray) (.agg f.cells.toArray)).run Tryz.prog W=.ok (.bool true) W:=λW=>by rw[t.out];simp[o]
    have n:=Lv p;clear p t;go_wp2
    refine QG S (by kernel_rfl) (by kernel_rfl) (St.drew g) ?_;clear g
    iterate 3 (refine Qe rfl ?_ (λW hW=>?_) ?_;rotate_left;(focus(go_simp;exact rfl));simp only[Act.put,Qa,Qb,Qc])
    (refine QW rfl 52 _ rfl ((ad.add (k*2))) rfl e.cells _ q.out Tryz.underlying52 rfl (by kernel_rfl) ?_;simp only[Act.put,Qa,Qb,Qc])
    iterate 3 (refine Qe rfl ?_ (λW hW=>?_) ?_;rotate_left;(focus(go_simp;exact rfl));simp only[Act.put,Qa,Qb,Qc])
    (refine QW rfl 52 _ rfl ((bd.add (k*2))) rfl f.cells _ s.out Tryz.underlying52 rfl (by kernel_rfl) ?_;simp only[Act.put,Qa,Qb,Qc]);(refine Qe rfl (.bool true) (λW hW=>KU (vx:=.agg e.cells.toArray) (vy:=.agg f.cells.toArray) rfl rfl rfl (by go_simp) (n.out W)) ?_;simp only[Act.put,Qa,Qb,Qc]);refine QE λW g=>?_
    clear n
    have v:Hid (decide (a=b)=false):=by
     show _=_
     have:a≠b:=λh=>o (by
      have l:=He.out
      rw[h,Hf.out]at l
      exact(Option.some.inj l).symm)
     simp[this]
    clear q s He Hf Hk o;go_wp2
    go_ret
    exact⟨QD v.out,z.out _ g⟩
  ·obtain rfl:k=na:=by omega
   have ab:Hid (decide (a=b)=true):=by
    show _=_;have l:=Hk.out;rw[Lm (by have:=Ha.out;omega),Lm (by have:=Hb.out;omega)]at l;simp[l]
   clear ah hk;go_wp2
   go_ret
   exact⟨QD ab.out,z.out _ g⟩
theorem Aa6 (A B:Option Addr)(c d na nb:Nat)(a b:List Nd)(w:World)(hna:na=a.length)(hnb:nb=b.length)(ha:Rd w A (ET a))(hb:Rd w B (ET b))(hla:a.length<=1000000):
 Calls Tryz.prog 125 #[.slice A na c,.slice B nb d] w λe w'=>e=.returned (.bool (decide (a=b)))/\Below w.heap.size w w':=by
 by_cases hl:na=nb;rotate_left
 ·have ak:((na:Int) != (nb:Int))=true:=by simp;omega
  have aa:a≠b:=λe=>hl (by rw[hna,hnb,e])
  have v:Hid (decide (a=b)=false):=by show _=_;simp[aa]
  clear hl hna hnb aa ha hb hla;go_enter Tryz.func125,Tryz.ntmps125
  go_wp2
  go_ret
  exact⟨QD v.out,Below.refl _ _⟩
 subst hl;have Ha:=Lv hna;have Hb:=Lv hnb;have al:(na:Int)<=1000000:=by omega
 clear hna hnb hla;obtain⟨S,m⟩:∃S,S=(λW=>Rd W A (ET a)/\Rd W B (ET b)/\Below w.heap.size w W):=⟨_,rfl⟩;have am:St S:=by rw[m];infer_instance
 have x:Hid (∀W,S W->Rd W A (ET a)):=by show ∀W,_;rw[m];exact λW h=>h.1
 have y:Hid (∀W,S W->Rd W B (ET b)):=by show ∀W,_;rw[m];exact λW h=>h.2.1
 have z:Hid (∀W,S W->Below w.heap.size w W):=by show ∀W,_;rw[m];exact λW h=>h.2.2
 have g:S w:=by rw[m];exact⟨ha,hb,Below.refl _ _⟩
 clear m ha hb;go_enter Tryz.func125,Tryz.ntmps125
 go_wp2
 go_loopw [5] (λi wr=>∃k:Nat,i=.int .i64 (k:Int)/\k<=na/\Hid (a.take k=b.take k)/\S wr) (λi _=>na-(intOf i).toNat)
 case atStart=>exact⟨0,by simp,Nat.zero_le _,by simp[Hid],g⟩
 case round=>
  clear g;obtain⟨k,rfl,hk,Hk,g⟩:=hrel;by_cases ah:k<na
  ·obtain⟨e,he⟩:∃e,a[k]? =some e:=⟨_,Ld (by have:=Ha.out;omega)⟩;obtain⟨f,hf⟩:∃f,b[k]? =some f:=⟨_,Ld (by have:=Hb.out;omega)⟩;obtain⟨ad,af,_⟩:=JG (x.out _ g) he;obtain⟨bd,ag,_⟩:=JG (y.out _ g) hf;subst af ag
   have q:Hid (∀W,S W->∀j u,e.cells[j]? =some u->W.cell? ((ad.add (k*2)).add j)=some u):=λW h=>by
    obtain⟨ae,l,h2⟩:=JG (x.out _ h) he;injection l with l;subst l;exact h2
   have s:Hid (∀W,S W->∀j u,f.cells[j]? =some u->W.cell? ((bd.add (k*2)).add j)=some u):=λW h=>by
    obtain⟨ae,l,h2⟩:=JG (y.out _ h) hf;injection l with l;subst l;exact h2
   have He:=Lv he;have Hf:=Lv hf;have ai:(k:Int)<(na:Int):=by omega
   have aj:IntKind.i64.wrap ((k:Int)+1)=(k:Int)+1:=IntWalk.i64_in _ (by omega);clear he hf;have t:=Lv (Acz e f);by_cases o:e=f
   ·have p:∀W,(binOp .neq 52 (.agg e.cells.toArray) (.agg f.cells.toArray)).run Tryz.prog W=.ok (.bool false) W:=λW=>by rw[t.out];simp[o]
    have n:=Lv p;clear p t;go_wp2
    refine QG S (by kernel_rfl) (by kernel_rfl) (St.drew g) ?_;clear g
    iterate 3 (refine Qe rfl ?_ (λW hW=>?_) ?_;rotate_left;(focus(go_simp;exact rfl));simp only[Act.put,Qa,Qb,Qc])
    (refine QW rfl 52 _ rfl ((ad.add (k*2))) rfl e.cells _ q.out Tryz.underlying52 rfl (by kernel_rfl) ?_;simp only[Act.put,Qa,Qb,Qc])
    iterate 3 (refine Qe rfl ?_ (λW hW=>?_) ?_;rotate_left;(focus(go_simp;exact rfl));simp only[Act.put,Qa,Qb,Qc])
    (refine QW rfl 52 _ rfl ((bd.add (k*2))) rfl f.cells _ s.out Tryz.underlying52 rfl (by kernel_rfl) ?_;simp only[Act.put,Qa,Qb,Qc]);(refine Qe rfl (.bool false) (λW hW=>KU (vx:=.agg e.cells.toArray) (vy:=.agg f.cells.toArray) rfl rfl rfl (by go_simp) (n.out W)) ?_;simp only[Act.put,Qa,Qb,Qc]);refine QE λW g=>?_
    clear n;subst o
    have ac:Hid (a.take (k+1)=b.take (k+1)):=by
     show _=_;rw[L5,L5,Hk.out,He.out,Hf.out]
    clear q s He Hf Hk;go_wp2
    go_roundw
    case rel=>exact⟨k+1,by go_num,by omega,ac,g⟩
    case measure=>simp[intOf];omega
   ·have p:∀W,(binOp .neq 52 (.agg e.cells.toArray) (.agg f.cells.toArray)).run Tryz.prog W=.ok (.bool true) W:=λW=>by rw[t.out];simp[o]
    have n:=Lv p;clear p t;go_wp2
    refine QG S (by kernel_rfl) (by kernel_rfl) (St.drew g) ?_;clear g
    iterate 3 (refine Qe rfl ?_ (λW hW=>?_) ?_;rotate_left;(focus(go_simp;exact rfl));simp only[Act.put,Qa,Qb,Qc])
    (refine QW rfl 52 _ rfl ((ad.add (k*2))) rfl e.cells _ q.out Tryz.underlying52 rfl (by kernel_rfl) ?_;simp only[Act.put,Qa,Qb,Qc])
    iterate 3 (refine Qe rfl ?_ (λW hW=>?_) ?_;rotate_left;(focus(go_simp;exact rfl));simp only[Act.put,Qa,Qb,Qc])
    (refine QW rfl 52 _ rfl ((bd.add (k*2))) rfl f.cells _ s.out Tryz.underlying52 rfl (by kernel_rfl) ?_;simp only[Act.put,Qa,Qb,Qc]);(refine Qe rfl (.bool true) (λW hW=>KU (vx:=.agg e.cells.toArray) (vy:=.agg f.cells.toArray) rfl rfl rfl (by go_simp) (n.out W)) ?_;simp only[Act.put,Qa,Qb,Qc]);refine QE λW g=>?_
    clear n
    have v:Hid (decide (a=b)=false):=by
     show _=_
     have:a≠b:=λh=>o (by
      have l:=He.out
      rw[h,Hf.out]at l
      exact(Option.some.inj l).symm)
     simp[this]
    clear q s He Hf Hk o;go_wp2
    go_ret
    exact⟨QD v.out,z.out _ g⟩
  ·obtain rfl:k=na:=by omega
   have ab:Hid (decide (a=b)=true):=by
    show _=_;have l:=Hk.out;rw[Lm (by have:=Ha.out;omega),Lm (by have:=Hb.out;omega)]at l;simp[l]
   clear ah hk;go_wp2
   go_ret
   exact⟨QD ab.out,z.out _ g⟩
theorem AcK (x:MtV)(w:World)(hx:MtOk w x):
 Calls Tryz.prog 59 #[.agg x.cells.toArray] w λe w'=>e=.returned (.bool (Kd x.m))/\Below w.heap.size w w':=by
 have q:=Lv hx;have b:x.m.digest.length<=1000000:=hx.dig;clear hx;go_enter Tryz.func59,Tryz.ntmps59
 go_wp2_with (refine Qx _ _ rfl ?_)
 refine Stop.to ?_;refine Qf rfl 95 _ rfl x.cells.toArray rfl ?_;intro G y h a g;have j:=(Below.refl w.heap.size w).trans (g.mono h);have k:=a.cellv (i:=3) (v:=.int .i64 x.m.verdict) rfl;have l:=a.cellv (i:=4) (v:=.int .i64 x.m.test) rfl;have n:=a.cellv (i:=7) (v:=.string ⟨x.m.digest.toArray⟩) rfl;have o:=a.cellv (i:=5) (v:=.int .i64 x.m.kind) rfl;have p:=a.cellv (i:=6) (v:=.int .i64 x.m.value) rfl;clear q a g h;obtain⟨A,s,⟨d,u,c,t,val,dig⟩⟩:=x;simp only at k l n o p b|-;go_wp2_with fail
 all_goals
  go_ret
  refine⟨QD ?_,j⟩
  clear k l n o p j
  simp only[beq_iff_eq,beq_eq_false_iff_ne,ne_eq]at*
  unfold Kd
  first| (simp_all;done)| (simp_all;omega)| ((repeat rw[if_pos (by first|assumption|omega)]);(repeat rw[if_neg (by first|assumption|omega)]);simp_all;first| (cases dig<;>simp;done)| ((have z:c<=19:=by omega);(have e2:dig.length=32:=by omega);by_cases e:val=0<;>simp_all))
end Go.Proofs.YtgnmkiafeplbpaaGreatDoor
namespace Go.Proofs.YtgnmkiafeplbpaaGreatDoor
open Go.ChangeShapes Go.WideShapes Go.RowKit Go.Deep
theorem Afl:Tryz.prog.cellsOf 52=2:=by kernel_rfl
theorem Aao:Tryz.prog.cellsOf 25=3:=by kernel_rfl
theorem Aam:Tryz.prog.cellsOf 22=1:=by kernel_rfl
theorem AdP:Tryz.prog.cellsOf 23=1:=by kernel_rfl
structure IntsV where
 addr:Option Addr
 cap:Nat
 l:List Int
def IntsV.val (r:IntsV):Value:=.slice r.addr r.l.length r.cap
structure IntsV.ok (r:IntsV)(w:World):Prop where
 len:r.l.length<=r.cap
 cap:r.cap<=maxLen
 nil:r.addr=none->r.cap=0
 reads:Rd w r.addr (Qj r.l)
 all:∀x∈r.l,InI x
theorem IntsV.ok.go{r:IntsV}{w w':World}(h:r.ok w)(b:Below w.heap.size w w'):r.ok w':=⟨h.len,h.cap,h.nil,h.reads.go b,h.all⟩
instance St.intsok{r:IntsV}:St (λW=>r.ok W):=⟨λh b=>h.go b⟩
def PgV.val (p:PgV):Value:=.agg p.cells
section
variable {H:Type} {enc:TypeId×Value->H} {w:World} {base:Nat} {spare:Nat->Bool} {held:Bool}
theorem Ah3{fuel:Nat}{cs:List Value}{x:DataW H×List MemPlace}(h:DataW.trod enc Tryz.prog w base spare held fuel 3 cs=some x):∃n:Int,cs=[.int .i64 n]/\InI n:=by
 obtain⟨n,e,h⟩:=ZJ Tryz.underlying3 h;exact⟨n,e,h⟩
theorem Ah5{fuel:Nat}{cs:List Value}{x:DataW H×List MemPlace}(h:DataW.trod enc Tryz.prog w base spare held fuel 52 cs=some x):∃e:Nd,cs=e.cells/\InI e.tag/\InI e.n:=by
 obtain⟨l,n,i⟩:=JR Tryz.underlying52 h;have c:cs.length=2:=l.trans Afl
 match cs,c with
 |[a,b],_=>
  obtain⟨_,j⟩:=i 0 _ rfl;obtain⟨_,k⟩:=i 1 _ rfl;obtain⟨m,d,p⟩:=ZJ Tryz.underlying3 j;obtain⟨o,g,q⟩:=ZJ Tryz.underlying3 k;simp[Km]at d g;exact⟨⟨m,o⟩,by rw[d,g];rfl,p,q⟩
theorem AhT (l:List Int):l.flatMap (λn=>[Value.int .i64 n])=Qj l:=by
 induction l with
 |nil=>rfl
 |cons a l ih=>rw[LF,ih];rfl
theorem UI{fuel:Nat}{cs:List Value}{x:DataW H×List MemPlace}(h:DataW.trod enc Tryz.prog w base spare held fuel 22 cs=some x):∃r:IntsV,r.ok w/\cs=[r.val]:=by
 obtain⟨A,a,d,rfl,e,i,k,p,g,j⟩:=Ug Tryz.underlying22 h;obtain⟨l,rfl,b⟩:=YY (λn:Int=>[Value.int .i64 n]) InI d (λo c=>by obtain⟨n,y,m⟩:=j o c;exact Ah3 m);rw[L7]at e;refine⟨⟨A,a,l⟩,⟨e,i,k,?_,b⟩,by rw[L7];rfl⟩;rw[<-List.flatMap_def,AhT]at g;exact g
theorem AeI{fuel:Nat}{cs:List Value}{x:DataW H×List MemPlace}(h:DataW.trod enc Tryz.prog w base spare held fuel 23 cs=some x):
 ∃(A:Option Addr) (cap:Nat) (l:List Nd),cs=[.slice A l.length cap]/\l.length<=cap/\cap<=maxLen/\(A=none->cap=0)/\Rd w A (l.flatMap Nd.cells)/\∀e∈l,InI e.tag/\InI e.n:=by
 obtain⟨A,cap,c,rfl,d,g,k,p,i,j⟩:=Ug Tryz.underlying23 h;obtain⟨l,rfl,a⟩:=YY Nd.cells (λe=>InI e.tag/\InI e.n) c (λo b=>by obtain⟨n,y,m⟩:=j o b;exact Ah5 m);rw[L7]at d;exact⟨A,cap,l,by rw[L7],d,g,k,by rw[List.flatMap_def];exact i,a⟩
theorem Af5{fuel:Nat}{cs:List Value}{x:DataW H×List MemPlace}(h:DataW.trod enc Tryz.prog w base spare held fuel 25 cs=some x):∃p:PgV,p.ok w/\cs=p.cells.toList:=by
 obtain⟨z,n,e⟩:=JR Tryz.underlying25 h;have g:cs.length=3:=z.trans Aao
 match cs,g with
 |[a,b,c],_=>
  obtain⟨_,u⟩:=e 0 _ rfl;obtain⟨_,v⟩:=e 1 _ rfl;obtain⟨_,y⟩:=e 2 _ rfl;obtain⟨n0,i,w0⟩:=ZJ Tryz.underlying3 u;obtain⟨r,d,j⟩:=UI v;obtain⟨A,cap,l,k,m,o,q,s,t⟩:=AeI y;simp[Km,Aam,AdP]at i j k;exact⟨⟨n0,r.addr,r.cap,r.l,A,cap,l⟩,⟨w0,d.len,d.cap,d.nil,d.reads,d.all,m,o,q,s,t⟩,by rw[i,j,k];rfl⟩
end
end Go.Proofs.YtgnmkiafeplbpaaGreatDoor
