/- Lemmas for RunnerKillsP. -/
import Derived.Test.YtkoikjnlpifbjaaGreatZk1
import Derived.Test.YtkoikjnlpifbjaaGreatZk6
set_option linter.unusedVariables false
set_option linter.unusedSimpArgs false
set_option maxRecDepth 100000
set_option maxHeartbeats 16000000
namespace Go.Proofs.YtkoikjnlpifbjaaGreat
open Go.RowKit Go.Deep
theorem Uk{V:List Int}{inn:Bool}:∀(ks:List Tr) (want:List Int) (f:Bool),want.length=ks.length->(Zb V inn f ks want=true<->∀(j:Nat) (t:Tr) (w:Int),ks[j]? =some t->want[j]? =some w->ofT V t=w/\(inn=true->(f=false\/0<j)->t.root.tag=20))
 |[],[],f,_=>by rw[ZE];simp
 |t::ts,k::ws,f,h=>by
  rw[Zv]
  have ih:=Uk (V:=V) (inn:=inn) ts ws false (by simpa using h)
  constructor
  ·intro hh
   simp only[LX]at hh
   obtain⟨⟨h1,h2⟩,h3⟩:=hh
   have h3:=ih.1 h3
   intro j t' w' ht hw
   cases j with
   |zero=>
    simp at ht hw;subst ht hw
    refine⟨by simpa using h1,λhi hf=>?_⟩
    rcases hf with hf|hf
    ·subst hi hf;simpa using h2
    ·omega
   |succ j=>
    simp at ht hw
    have:=h3 j t' w' ht hw
    exact⟨this.1,λhi _=>this.2 hi (.inl rfl)⟩
  ·intro hh
   simp only[LX]
   refine⟨⟨?_,?_⟩,ih.2 λj t' w' ht hw=>?_⟩
   ·have:=(hh 0 t k rfl rfl).1;simpa using this
   ·cases hi:inn with
    |false=>simp
    |true=>
     cases hf:f with
     |true=>simp
     |false=>have:=(hh 0 t k rfl rfl).2 hi (.inl hf);simp[this]
   ·have:=hh (j+1) t' w' (by simpa using ht) (by simpa using hw)
    exact⟨this.1,λhi _=>this.2 hi (.inr (by omega))⟩
structure RB (M:Nat)(W:World):Prop where
 ex:∃es,MapB W M es/\(∀p∈es,RuleR W p.1 p.2)/\∀k,k∈es.map (·.1)<->(1<=k/\k<=26/\k≠20)
theorem RB.go{M:Nat}{W W':World}(h:RB M W)(b:Below W.heap.size W W'):RB M W':=by
 obtain⟨d,c,e,g⟩:=h.ex;exact⟨d,c.below b c.lt,λp i=>(e p i).go b,g⟩
instance St.rb{M:Nat}:St (λW=>RB M W):=⟨λh b=>h.go b⟩
def Xi (p:PgV)(M:Nat):Array Value:=#[.int .i64 p.params,.slice p.va p.V.length p.vcap,.slice p.ba p.body.length p.bcap,.map (some M)]
theorem Yx{W:World}{C M:Nat}{p:PgV}(h:Row W C 173 (Xi p M)):∀j v,p.cells.toList[j]? =some v->W.cell? ((⟨C,0,none⟩:Addr).add j)=some v:=
 h.from_ 0 (cs:=p.cells.toList) (λj v hj=>by
  rw[LG]
  have hlt:=(La.1 hj).1
  simp only[PgV.cells,Lc,Lo]at hlt
  have:j=0\/j=1\/j=2:=by omega
  rcases this with rfl|rfl|rfl<;>simpa[PgV.cells,Xi]using hj)
theorem Ad4{tag is:Int}{want:List Int}(h:JN tag=some (is,want)):
 (tag=1/\is=0/\want=[])\/(tag=2/\is=1/\want=[])\/(tag=5/\is=0/\want=[0])\/(tag=6/\is=1/\want=[1])\/(tag=18/\is=1/\want=[1,1])\/(tag=19/\is=1/\want=[1,1])\/(tag=23/\is=2/\want=[1,2,2])\/(tag=24/\is=2/\want=[1,2])\/(tag=25/\is=2/\want=[0])\/(tag=26/\is=2/\want=[])\/((7<=tag/\tag<=11)/\is=0/\want=[0,0])\/((12<=tag/\tag<=17)/\is=1/\want=[0,0]):=by
 have c:∀{o:Option (Int×List Int)} {a:Int} {l:List Int},o=some (is,want)->o=some (a,l)->is=a/\want=l:=λj g=>by
  rw[j]at g;injection g with g;injection g with h3 h4;exact⟨h3,h4⟩
 by_cases j:tag=1
 ·have:=c h (by unfold JN;rw[if_pos j]);exact .inl (⟨j,this.1,this.2⟩)
 by_cases g:tag=2
 ·have:=c h (by unfold JN;rw[if_neg j,if_pos g]);exact .inr (.inl (⟨g,this.1,this.2⟩))
 by_cases n:tag=5
 ·have:=c h (by unfold JN;rw[if_neg j,if_neg g,if_pos n]);exact .inr (.inr (.inl (⟨n,this.1,this.2⟩)))
 by_cases q:tag=6
 ·have:=c h (by unfold JN;rw[if_neg j,if_neg g,if_neg n,if_pos q]);exact .inr (.inr (.inr (.inl (⟨q,this.1,this.2⟩))))
 by_cases d:tag=18
 ·have:=c h (by unfold JN;rw[if_neg j,if_neg g,if_neg n,if_neg q,if_pos d]);exact .inr (.inr (.inr (.inr (.inl (⟨d,this.1,this.2⟩)))))
 by_cases e:tag=19
 ·have:=c h (by unfold JN;rw[if_neg j,if_neg g,if_neg n,if_neg q,if_neg d,if_pos e]);exact .inr (.inr (.inr (.inr (.inr (.inl (⟨e,this.1,this.2⟩))))))
 by_cases i:tag=23
 ·have:=c h (by unfold JN;rw[if_neg j,if_neg g,if_neg n,if_neg q,if_neg d,if_neg e,if_pos i]);exact .inr (.inr (.inr (.inr (.inr (.inr (.inl (⟨i,this.1,this.2⟩)))))))
 by_cases k:tag=24
 ·have:=c h (by unfold JN;rw[if_neg j,if_neg g,if_neg n,if_neg q,if_neg d,if_neg e,if_neg i,if_pos k]);exact .inr (.inr (.inr (.inr (.inr (.inr (.inr (.inl (⟨k,this.1,this.2⟩))))))))
 by_cases m:tag=25
 ·have:=c h (by unfold JN;rw[if_neg j,if_neg g,if_neg n,if_neg q,if_neg d,if_neg e,if_neg i,if_neg k,if_pos m]);exact .inr (.inr (.inr (.inr (.inr (.inr (.inr (.inr (.inl (⟨m,this.1,this.2⟩)))))))))
 by_cases p:tag=26
 ·have:=c h (by unfold JN;rw[if_neg j,if_neg g,if_neg n,if_neg q,if_neg d,if_neg e,if_neg i,if_neg k,if_neg m,if_pos p]);exact .inr (.inr (.inr (.inr (.inr (.inr (.inr (.inr (.inr (.inl (⟨p,this.1,this.2⟩))))))))))
 by_cases s:7<=tag/\tag<=11
 ·have:=c h (by unfold JN;rw[if_neg j,if_neg g,if_neg n,if_neg q,if_neg d,if_neg e,if_neg i,if_neg k,if_neg m,if_neg p,if_pos s]);exact .inr (.inr (.inr (.inr (.inr (.inr (.inr (.inr (.inr (.inr (.inl (⟨s,this.1,this.2⟩)))))))))))
 by_cases t:12<=tag/\tag<=17
 ·have:=c h (by unfold JN;rw[if_neg j,if_neg g,if_neg n,if_neg q,if_neg d,if_neg e,if_neg i,if_neg k,if_neg m,if_neg p,if_neg s,if_pos t]);exact .inr (.inr (.inr (.inr (.inr (.inr (.inr (.inr (.inr (.inr (.inr (⟨t,this.1,this.2⟩)))))))))))
 ·exfalso;have u:JN tag=none:=by unfold JN;rw[if_neg j,if_neg g,if_neg n,if_neg q,if_neg d,if_neg e,if_neg i,if_neg k,if_neg m,if_neg p,if_neg s,if_neg t]
  rw[u]at h;cases h
theorem AgS{V:List Int}{tag n is:Int}{want:List Int}(h:JN tag=some (is,want))(m:Nat):isZ V ⟨tag,n⟩=is/\QY V ⟨tag,n⟩ m=want:=by
 rcases Ad4 h with⟨rfl,rfl,rfl⟩|⟨rfl,rfl,rfl⟩|⟨rfl,rfl,rfl⟩|⟨rfl,rfl,rfl⟩|⟨rfl,rfl,rfl⟩|⟨rfl,rfl,rfl⟩|⟨rfl,rfl,rfl⟩|⟨rfl,rfl,rfl⟩|⟨rfl,rfl,rfl⟩|⟨rfl,rfl,rfl⟩|⟨c,rfl,rfl⟩|⟨c,rfl,rfl⟩
 iterate 10 (exact⟨rfl,rfl⟩)
 all_goals
  unfold isZ QY
  dsimp only
  refine⟨?_,?_⟩<;>(repeat(first|rw[if_pos (by omega)]|rw[if_neg (by omega)]))
theorem AjY{V:List Int}{tag n is:Int}{want:List Int}(h:Ajr tag=some (is,want))(m:Nat):isZ V ⟨tag,n⟩=Yv V n is/\QY V ⟨tag,n⟩ m=want:=by
 unfold Ajr at h
 repeat' split at h
 all_goals cases h
 all_goals(subst_vars;exact⟨rfl,rfl⟩)
theorem AeW{V:List Int}{tag n:Int}{b:Bool}(h:tag=3/\b=false\/tag=21/\b=true)(m:Nat):isZ V ⟨tag,n⟩=XG V n b/\(isZ V ⟨tag,n⟩≠ -1->QY V ⟨tag,n⟩ m=KN V n b):=by
 rcases h with⟨rfl,rfl⟩|⟨rfl,rfl⟩
 ·exact⟨rfl,λ_=>by unfold KN;rw[if_neg (by simp)];rfl⟩
 ·refine⟨rfl,λc=>?_⟩
  have d:Ky V n=true:=by
   cases d:Ky V n with
   |true=>rfl
   |false=>exact absurd (show isZ V ⟨21,n⟩= -1 by show(if Ky V n=true then(2:Int)else-1)= -1;rw[d];rfl) c
  obtain⟨t,e,_⟩:=Yl d;unfold KN;rw[if_pos ⟨rfl,(La.1 e).1⟩];rfl
theorem Abq{V:List Int}{n:Int}(m:Nat):isZ V ⟨20,n⟩=2/\QY V ⟨20,n⟩ m=List.replicate m 2:=⟨rfl,rfl⟩
theorem YF{V:List Int}{x:Nd}{ks:List Tr}{iv:Int}{want:List Int}(hi:isZ V x=iv)(hw:iv≠ -1->QY V x ks.length=want):
 (iv= -1->ofT V (.node x ks)= -1)/\(want.length≠ks.length->ofT V (.node x ks)= -1)/\(iv≠ -1->want.length=ks.length->Zb V (ZH x) true ks want=true->ofT V (.node x ks)=iv)/\(Zb V (ZH x) true ks want=false->want.length=ks.length->ofT V (.node x ks)= -1):=by
 by_cases h:iv= -1
 ·have:ofT V (.node x ks)= -1:=by rw[ofT,if_pos (.inl (hi.trans h))]
  exact⟨λ_=>this,λ_=>this,λe=>absurd h e,λ_ _=>this⟩
 ·have g:=hw h;clear hw;subst hi g;refine⟨λe=>absurd e h,λc=>?_,λ_ c d=>?_,λd c=>?_⟩
  ·rw[ofT,if_pos (.inr c)]
  ·rw[ofT,if_neg (by simp[h,c]),if_pos d]
  ·rw[ofT,if_neg (by simp[h,c]),d];rfl
theorem K5{V:List Int}{inn:Bool}{ks:List Tr}{want:List Int}(hl:want.length=ks.length){j:Nat}{t:Tr}{w:Int}(ht:ks[j]? =some t)(hw:want[j]? =some w)(h:¬(ofT V t=w/\(inn=true->0<j->t.root.tag=20))):Zb V inn true ks want=false:=by
 cases hk:Zb V inn true ks want with
 |false=>rfl
 |true=>
  have:=(Uk ks want true hl).1 hk j t w ht hw;exact absurd ⟨this.1,λhi c=>this.2 hi (.inr c)⟩ h
def AdR (V:List Int)(inn:Bool)(ks:List Tr)(want:List Int)(k:Nat):Prop:=∀(j:Nat) (t:Tr) (w:Int),j<k->ks[j]? =some t->want[j]? =some w->ofT V t=w/\(inn=true->0<j->t.root.tag=20)
theorem Kv{V:List Int}{inn:Bool}{ks:List Tr}{want:List Int}{k:Nat}{t:Tr}{w:Int}(h:AdR V inn ks want k)(ht:ks[k]? =some t)(hw:want[k]? =some w)(h1:ofT V t=w)(h2:inn=true->0<k->t.root.tag=20):AdR V inn ks want (k+1):=λj t' w' hj ht' hw'=>by
 by_cases e:j=k
 ·subst e;rw[ht]at ht';rw[hw]at hw';injection ht' with e1;injection hw' with e2;subst e1 e2;exact⟨h1,h2⟩
 ·exact h j t' w' (by omega) ht' hw'
theorem Abz{V:List Int}{inn:Bool}{ks:List Tr}{want:List Int}{k:Nat}(hl:want.length=ks.length)(hk:ks.length<=k)(h:AdR V inn ks want k):Zb V inn true ks want=true:=
 (Uk ks want true hl).2 λj t w ht hw=>by
  have:=h j t w (by have:=(La.1 ht).1;omega) ht hw
  exact⟨this.1,λhi hf=>this.2 hi (hf.elim (λe=>by cases e) id)⟩
section
variable {A:Option Addr} {m cap:Nat} {is:Int} {b:Bool}
theorem Afa (f:Nat)(w:World):(method (f+1) 228 (.agg #[.slice A m cap,.int .i64 is]) "offshoot/kinds.kind").run Tryz.prog w=.ok (274,.agg #[.slice A m cap,.int .i64 is]) w:=by kernel_rfl
theorem Ae9 (f:Nat)(w:World):(method (f+1) 232 (.agg #[.slice A m cap,.int .i64 is]) "offshoot/kinds.kind").run Tryz.prog w=.ok (276,.agg #[.slice A m cap,.int .i64 is]) w:=by kernel_rfl
theorem AdI (f:Nat)(w:World):(method (f+1) 230 (.agg #[.bool b]) "offshoot/kinds.kind").run Tryz.prog w=.ok (275,.agg #[.bool b]) w:=by kernel_rfl
end
theorem AlH{W:World}{p:PgV}{tag nn:Int}{v:Value}(k:Nat)(h:RuleR W tag v)(hn0:tag≠1->0<=nn):
 ∃ty x fk iv want,v=.iface ty x/\(∀w,(binOp .neq 234 (.iface ty x) .nilIface).run Tryz.prog w=.ok (.bool true) w)/\(∀f w,(method (f+1) ty x "offshoot/kinds.kind").run Tryz.prog w=.ok (fk,x) w)/\(∀a w,(callFunc fk a).run Tryz.prog w=.ok (.enter fk a) w)/\
  (∀W',Below W.heap.size W W'->p.ok W'->Calls Tryz.prog fk #[x,.agg p.cells,.agg (Nd.cells ⟨tag,nn⟩).toArray] W' λe w'=>e=.returned (.int .i64 iv)/\Below W'.heap.size W' w')/\
  (∀m W',Below W.heap.size W W'->p.ok W'->Calls Tryz.prog 139 #[.agg p.cells,.agg (Nd.cells ⟨tag,nn⟩).toArray,.iface ty x,.int .i64 m] W' λe w'=>WantR want W' w' e)/\
  isZ p.V ⟨tag,nn⟩=iv/\(iv≠ -1->QY p.V ⟨tag,nn⟩ k=want):=by
 cases h with
 |plain is A m cap want hc c hr=>
  subst c;obtain⟨d,g⟩:=AgS (V:=p.V) (n:=nn) hc k;exact⟨_,_,_,_,want,rfl,λ_=>by kernel_rfl,λf w=>Afa f w,λ_ _=>by kernel_rfl,λW' _ _=>AaQ A want.length cap is p ⟨tag,nn⟩ W',λm W' b _=>(AcL A want.length cap is p ⟨tag,nn⟩ m W').mono λe w' ⟨e1,b1⟩=>⟨A,cap,e1,(hr.go b).go b1,b1⟩,d,λ_=>g⟩
 |scalar b h=>
  obtain⟨d,g⟩:=AeW (V:=p.V) (n:=nn) h k;have c:=hn0 (by omega);exact⟨_,_,_,_,_,rfl,λ_=>by kernel_rfl,λf w=>AdI f w,λ_ _=>by kernel_rfl,λW' _ i=>Aaq b p tag nn W' i c,λm W' _ i=>AbO b p tag nn c m W' i,d,λh=>g (by rw[d];exact h)⟩
 |array is A m cap want hc c hr=>
  subst c;obtain⟨d,g⟩:=AjY (V:=p.V) (n:=nn) hc k;have c:=hn0 (λe=>by subst e;simp[Ajr]at hc);exact⟨_,_,_,_,want,rfl,λ_=>by kernel_rfl,λf w=>Ae9 f w,λ_ _=>by kernel_rfl,λW' _ i=>AaJ A want.length cap is p tag nn W' i c,λm W' b _=>(AcK A want.length cap is p ⟨tag,nn⟩ m W').mono λe w' ⟨e1,b1⟩=>⟨A,cap,e1,(hr.go b).go b1,b1⟩,d,λ_=>g⟩
theorem Aka (p:PgV)(M:Nat)(hbl:p.body.length<=1000):∀(n:Nat) (t:Tr) (q:Nat),t.size<=n->At p.body q t->∀w,p.ok w->RB M w->Calls Tryz.prog 105 #[.agg (Xi p M),.int .i64 (q:Int)] w λe w'=>e=.returned (.int .i64 (ofT p.V t))/\Below w.heap.size w w':=by
 intro n
 induction n with
 |zero=>intro t q hn;have:=t.size_eq;omega
 |succ n ih=>
 intro t q hn ap w cp cr;obtain⟨⟨tag,nn⟩,ks⟩:=t;have cu:=Lh hbl;have b8:kidsZ p.body (q:Int)=KX (Q1 (q+1) ks):=ap.kidsZ;obtain⟨pos,av⟩:∃pos,pos=Q1 (q+1) ks:=⟨_,rfl⟩;rw[<-av]at b8;have cw:=Lh b8;have s:Hid (pos.length=ks.length):=by show _=_;rw[av,Ju]
 have co:∀(i q':Nat) (k:Tr),pos[i]? =some q'->ks[i]? =some k->At p.body q' k/\∀W,p.ok W->RB M W->Calls Tryz.prog 105 #[.agg (Xi p M),.int .i64 (q':Int)] W λe W'=>e=.returned (.int .i64 (ofT p.V k))/\Below W.heap.size W W':=by
  intro i q' k h1 hk;rw[av]at h1;obtain⟨cj,_⟩:=ap.kids.spot i q' k h1 hk;refine⟨cj,ih k q' ?_ cj⟩;have h3:=UE (Lf hk);have h4:=(Tr.node ⟨tag,nn⟩ ks).size_eq;simp only[Tr.kids]at h4;omega
 have bo:Hid (pos.length<=1000):=by
  show _<=_
  have h5:∀(ts:List Tr),ts.length<=(QM ts).length:=λts=>by
   induction ts with
   |nil=>simp
   |cons t ts ih=>rw[QM,Le,Lc];have:=t.size_eq;have dg:t.size=t.flat.length:=rfl;omega
  have h3:=h5 ks;have h4:=(Tr.node ⟨tag,nn⟩ ks).size_eq;simp only[Tr.kids]at h4;have:=ap.le;rw[s.out];omega
 have cd:=Lh co;have bj:=ap.fits;have bu:0<=Qv ⟨tag,nn⟩:=by have:=bj.arity;simp only[Tr.root,Tr.kids]at this;omega
 have bk:1<=tag/\tag<=26:=by
  by_cases h:1<=tag/\tag<=26
  ·exact h
  ·rw[Aa0 h]at bu;omega
 have cm:tag≠1->0<=nn:=λh=>by have:=Aa2 bu;simp only at this;omega
 have cx:=Lh cm;have bp:Hid (p.body[q]? =some ⟨tag,nn⟩):=ap.root;have df:(q:Int)<(p.body.length:Int):=by have:=ap.lt;omega
 have ce:=Lh cp;have cf:=Lh cr;have bi:=Lh bk;clear b8 co bj bu cm cp av ap ih hbl hn cr bk;go_enter Tryz.func105,Tryz.ntmps105
 go_wp2_with (refine Qq _ _ rfl ?_)
 refine Stop.to ?_;refine Qe rfl 173 _ rfl (Xi p M) rfl ?_;intro C w1 hC rC b1;have b1:=(Below.refl w.heap.size w).trans (b1.mono hC);have c2:=rC.cellv (i:=2) (v:=.slice p.ba p.body.length p.bcap) rfl;have az:=Lh (ce.out.go b1);have bg:=Lh (cf.out.go b1);obtain⟨ad,ch,hc⟩:=J6 az.out.brd bp.out;have Hc:=Lh hc;have cg:=c2;rw[ch]at cg;clear hC ce cf c2 hc ch
 go_wp2_with (first
  | (refine QT rfl 65 _ rfl (ad.add (q*2)) rfl (Nd.cells ⟨tag,nn⟩) _ Hc.out Tryz.underlying65 rfl (by kernel_rfl) ?_)
  | (refine QH _ rfl ?_))
 refine Stop.to ?_;refine Qj rfl 65 rfl _ _ Vx rfl ?_;intro X w3 hX rX b3;go_wp2_with (refine Qs _ _ _ rfl ?_)
 refine Stop.to ?_;refine Qk rfl 65 _ _ rfl X (Nd.cells ⟨tag,nn⟩).toArray rfl rfl 65 _ rX (by kernel_rfl) rfl (by simp[Nd.cells,Value.oneCell']) ?_;intro w4 r4 o4;have a3:Below w1.heap.size w1 w4:=(b3.mono hX).trans (o4.below hX);have rC:=rC.below a3 rC.lt;have a0:=Lh (az.out.go a3);have bh:=Lh (bg.out.go a3);have b4:=b1.trans (a3.mono b1.size);have c2:=rC.cellv (i:=2) (v:=.slice p.ba p.body.length p.bcap) rfl;clear b3 o4 rX a3 b1 az bg cg hX Hc;go_wp2_with fail
 refine(UF p.ba p.bcap p.body (q:Int) w4 a0.out.brd cu.out).mono ?_;rintro e W ⟨kv,rfl,a9,b5⟩;rw[cw.out,Abv]at a9;obtain⟨KA,db,rfl,cl,dd,de⟩:=Ab9 a9;have rC:=rC.below b5 rC.lt;have r4:=r4.below b5 r4.lt;have bf:=Lh (a0.out.go b5);have a1:=Lh (bh.out.go b5);have b5:=b4.trans (b5.mono b4.size);have dc:=r4.cellv (i:=0) (v:=.int .i64 tag) rfl;have c3:=rC.cellv (i:=3) (v:=.map (some M)) rfl;obtain⟨S,an⟩:∃S,S=(λW=>Row W C 173 (Xi p M)/\Row W X 65 (Nd.cells ⟨tag,nn⟩).toArray/\Rd W KA (Qi (KX pos))/\p.ok W/\RB M W/\Below w.heap.size w W):=⟨_,rfl⟩;have ca:St S:=by rw[an];infer_instance
 have S0:Hid (∀W,S W->Row W C 173 (Xi p M)):=by show ∀W,_;rw[an];exact λW h=>h.1
 have S6:Hid (∀W,S W->Row W X 65 (Nd.cells ⟨tag,nn⟩).toArray):=by show ∀W,_;rw[an];exact λW h=>h.2.1
 have S1:Hid (∀W,S W->Rd W KA (Qi (KX pos))):=by show ∀W,_;rw[an];exact λW h=>h.2.2.1
 have S2:Hid (∀W,S W->p.ok W):=by show ∀W,_;rw[an];exact λW h=>h.2.2.2.1
 have S5:Hid (∀W,S W->RB M W):=by show ∀W,_;rw[an];exact λW h=>h.2.2.2.2.1
 have S4:Hid (∀W,S W->Below w.heap.size w W):=by show ∀W,_;rw[an];exact λW h=>h.2.2.2.2.2
 have hS:S W:=by rw[an];exact⟨rC,r4,cl,bf.out,a1.out,b5⟩
 obtain⟨es,b2,b0,be⟩:=a1.out.ex;have bl:=Lh b2;clear a9 c2 a0 bh b4 an rC r4 cl bf a1 b5;by_cases bc:tag=20
 ·have au:=Lh bc;have cn:JK tag es=none:=Ud (λh=>((be tag).1 h).2.2 bc);have Hv:=Lh cn;clear b0 be cn b2 bc
  go_wp2_with (first
   | (refine ZQ rfl _ _ rfl Tryz.underlying170 Tryz.underlying3 bl.out rfl tag rfl (z:=.nilIface) rfl ?_;rw[Hv.out,Option.getD_none])
   | (refine QT rfl 25 _ rfl ⟨C,0,none⟩ rfl p.cells.toList _ (Yx (S0.out _ hS)) Tryz.underlying25 rfl (by kernel_rfl) ?_;rw[Nw])
   | (refine wpList_load_row rfl 65 _ rfl X rfl 65 (Nd.cells ⟨tag,nn⟩).toArray (0,0) _ (S6.out _ hS) Tryz.underlying65 rfl (by kernel_rfl) ?_))
  refine(Agp p ⟨tag,nn⟩ pos.length bo.out W).mono ?_;rintro e W2 ⟨WA,ct,rfl,ax,b6⟩;have hS:=ca.go hS b6;obtain⟨iv,a8⟩:∃iv:Int,iv=2:=⟨2,rfl⟩;have aa:isZ p.V ⟨tag,nn⟩=iv:=by rw[a8,au.out];exact(Abq 0).1
  obtain⟨d,ao⟩:∃d:List Int,d=List.replicate pos.length 2:=⟨_,rfl⟩;have ac:iv≠ -1->QY p.V ⟨tag,nn⟩ ks.length=d:=λ_=>by rw[ao,s.out,au.out];exact(Abq (V:=p.V) (n:=nn) ks.length).2
  rw[<-ao]at ax|-;rw[<-a8];clear a8 ao b6;have bq:=Lh (YF (V:=p.V) (ks:=ks) aa ac).1;have br:=Lh (YF (V:=p.V) (ks:=ks) aa ac).2.1;have bs:=Lh (YF (V:=p.V) (ks:=ks) aa ac).2.2.1;have a2:=Lh (YF (V:=p.V) (ks:=ks) aa ac).2.2.2;clear aa ac;by_cases ae:iv= -1
  ·have e1:(iv== -1)=true:=by simpa using ae
   have hz:=Lh (bq.out ae);clear ae;go_wp2
   go_ret
   exact⟨QS hz.out,S4.out _ hS⟩
  have e1:(iv== -1)=false:=by simpa using ae
  have bn:=Lh ae;clear ae;by_cases ab:d.length=ks.length;rotate_left
  ·have e2:((d.length:Int) != (pos.length:Int))=true:=by simp;have:=s.out;omega
   have hz:=Lh (br.out ab);clear ab;go_wp2
   go_ret
   exact⟨QS hz.out,S4.out _ hS⟩
  have e2:((d.length:Int) != (pos.length:Int))=false:=by simp;have:=s.out;omega
  have g:=Lh ab;clear ab;obtain⟨T,ag⟩:∃T:World->Prop,T=(λW=>S W/\Rd W WA (Qi d)):=⟨_,rfl⟩;have da:St T:=by rw[ag];infer_instance
  have T0:Hid (∀W,T W->S W):=by show ∀W,_;rw[ag];exact λW h=>h.1
  have T1:Hid (∀W,T W->Rd W WA (Qi d)):=by show ∀W,_;rw[ag];exact λW h=>h.2
  have hT:T W2:=by rw[ag];exact⟨hS,ax⟩
  have TC:Hid (∀W,T W->Row W C 173 (Xi p M)):=by show ∀W,_;exact λW h=>S0.out _ (T0.out _ h)
  clear ag hS ax;go_wp2
  go_loopw [54] (λi wr=>∃k:Nat,i=.int .i64 (k:Int)/\k<=pos.length/\T wr/\Hid (AdR p.V (ZH ⟨tag,nn⟩) ks d k)) (λi _=>pos.length-(intOf i).toNat)
  case atStart=>exact⟨0,rfl,Nat.zero_le _,hT,Lh (λj _ _ hj=>by omega)⟩
  case round=>
   clear hT;obtain⟨k,rfl,hk,ah,y⟩:=hrel;by_cases al:k<pos.length
   ·obtain⟨q',hq⟩:∃q,pos[k]? =some q:=⟨_,Lb al⟩;obtain⟨kt,ar⟩:∃kt,ks[k]? =some kt:=⟨_,Lb (by rw[<-s.out];exact al)⟩;obtain⟨u,hu⟩:∃u,d[k]? =some u:=⟨_,Lb (by rw[g.out, <-s.out];exact al)⟩;obtain⟨ai,aj⟩:=cd.out k q' kt hq ar;have a4:=Lh aj;have ay:=Lh ai;obtain⟨kd,aw,a6⟩:=Zg (l:=KX pos) (S1.out _ (T0.out _ ah)) (k:=k) (x:=(q':Int)) (by simp[KX,hq]);obtain⟨wd,b9,_⟩:=Zg (l:=d) (T1.out _ ah) (k:=k) (x:=u) hu;subst aw b9
    have bx:Hid (∀W,T W->W.cell? (wd.add k)=some (.int .i64 u)):=by
     show ∀W,_;intro W o;obtain⟨c0,e,h⟩:=Zg (l:=d) (T1.out _ o) (k:=k) (x:=u) hu;injection e with e;subst e;exact h
    have c7:(k:Int)<(pos.length:Int):=by omega
    have c8:(k:Int)<(d.length:Int):=by have:=g.out;have:=s.out;omega
    have c9:(q':Int)<(p.body.length:Int):=by have:=ai.lt;omega
    have af:=Lh ar;have Hu:=Lh hu;have cq:=bo.out;clear hq ar hu al aj ai;go_wp2_with fail
    refine JC T (by kernel_rfl) (by kernel_rfl) (St.drew ah) ?_;clear ah a6;(refine Zp rfl 173 _ rfl (C) rfl 173 _ _ TC.out Tryz.underlying173 rfl (by kernel_rfl) ?_;simp only[Act.put,Qa,Qb,Qc])
    iterate 1 (refine Qg rfl ?_ (λW o=>?_) ?_;rotate_left;(focus(go_simp;exact rfl));simp only[Act.put,Qa,Qb,Qc])
    (refine Q8 rfl 105 _ (λW=>by(go_simp;try rfl)) _ (λW o=>a4.out W (S2.out _ (T0.out _ o)) (S5.out _ (T0.out _ o))) ?_;simp only[Act.put,Qa,Qb,Qc])
    iterate 3 (refine Qg rfl ?_ (λW o=>?_) ?_;rotate_left;(focus(go_simp;exact rfl));simp only[Act.put,Qa,Qb,Qc])
    (refine Qg rfl ?_ (λW o=>?_) ?_;rotate_left;(focus(have c:=bx.out W o;go_simp;exact rfl));simp only[Act.put,Qa,Qb,Qc])
    iterate 1 (refine Qg rfl ?_ (λW o=>?_) ?_;rotate_left;(focus(go_simp;exact rfl));simp only[Act.put,Qa,Qb,Qc])
    refine Q4 λW o=>?_
    by_cases he:ofT p.V kt=u;rotate_left
    ·have bz:(ofT p.V kt != u)=true:=by simpa using he
     have hz:=Lh (a2.out (K5 g.out af.out Hu.out (λh=>he h.1)) g.out);clear he;go_wp2
     go_ret
     exact⟨QS hz.out,S4.out _ (T0.out _ o)⟩
    have bz:(ofT p.V kt != u)=false:=by simpa using he
    have He:=Lh he;have rX:=S6.out _ (T0.out _ o);have c1:=rX.cellv (i:=0) (v:=.int .i64 tag) rfl;have bb:=TC.out _ o;have bt:=bb.cellv (i:=2) (v:=.slice p.ba p.body.length p.bcap) rfl;obtain⟨bd,a5,a7⟩:=J6 (S2.out _ (T0.out _ o)).brd ay.out.root;have bw:=a7 0 (.int .i64 kt.root.tag) rfl;rw[show(bd.add (q'*2)).add 0=bd.add (q'*2) by rw[Xf];simp]at bw;rw[a5]at bt;clear he rX bb a7 a5;by_cases m:ZH ⟨tag,nn⟩=true
    ·have ak:tag=23\/tag=24:=by simpa[ZH]using m
     have bm:=Lh m;clear m;by_cases aq:k=0
     ·have am:=Lh (Kv y.out af.out Hu.out He.out (λ_ h=>by omega));subst aq;have e0:decide (((0:Nat):Int)<((0:Nat):Int))=false:=by simp
      rcases ak with rfl|rfl
      all_goals
       go_wp2
       go_roundw
       case rel=>exact⟨0+1,by go_num,by omega,o,am⟩
       case measure=>simp[intOf];omega
     ·have ck:0<(k:Int):=by omega
      by_cases hb:kt.root.tag=20
      ·have bv:(kt.root.tag != 20)=false:=by simp[hb]
       have am:=Lh (Kv y.out af.out Hu.out He.out (λ_ _=>hb));clear hb aq;rcases ak with rfl|rfl
       all_goals
        go_wp2
        go_roundw
        case rel=>exact⟨k+1,by go_num,by omega,o,am⟩
        case measure=>simp[intOf];omega
      ·have bv:(kt.root.tag != 20)=true:=by simpa using hb
       have hz:=Lh (a2.out (K5 g.out af.out Hu.out (λh=>hb (h.2 bm.out (by omega)))) g.out);clear hb aq;rcases ak with rfl|rfl
       all_goals
        go_wp2
        go_ret
        exact⟨QS hz.out,S4.out _ (T0.out _ o)⟩
    ·have am:=Lh (Kv y.out af.out Hu.out He.out (λh _=>absurd h m));have c4:(tag==23)=false:=by simp[ZH]at m;simp[m.1]
     have c5:(tag==24)=false:=by simp[ZH]at m;simp[m.2]
     clear m;go_wp2
     go_roundw
     case rel=>exact⟨k+1,by go_num,by omega,o,am⟩
     case measure=>simp[intOf];omega
   ·have c6:(pos.length:Int)<=(k:Int):=by omega
    have hz:=Lh (bs.out bn.out g.out (Abz g.out (by have:=s.out;omega) y.out));clear al;go_wp2
    go_ret
    exact⟨QS hz.out,S4.out _ (T0.out _ ah)⟩
 ·obtain⟨v,hv⟩:=Eo ((be tag).2 ⟨bi.out.1,bi.out.2,bc⟩);have cs:=b0 _ (Aa3 hv);have Hv:=Lh hv;obtain⟨ty,x,fk,iv,d,rfl,g1,gm,gc,aw,ci,aa,ac⟩:=AlH (p:=p) ks.length cs cx.out;have cc:=Lh aw;have cb:=Lh ci;have cv:=Lh aa;have cy:=Lh ac;clear b0 be hv b2 cs aw ci aa ac
  go_wp2_with (first
   | (refine ZQ rfl _ _ rfl Tryz.underlying170 Tryz.underlying3 bl.out rfl tag rfl (z:=.nilIface) rfl ?_;rw[Hv.out,LL])
   | (refine QT rfl 25 _ rfl ⟨C,0,none⟩ rfl p.cells.toList _ (Yx (S0.out _ hS)) Tryz.underlying25 rfl (by kernel_rfl) ?_;rw[Nw])
   | (refine wpList_load_row rfl 65 _ rfl X rfl 65 (Nd.cells ⟨tag,nn⟩).toArray (0,0) _ (S6.out _ hS) Tryz.underlying65 rfl (by kernel_rfl) ?_))
  refine(cc.out W (Below.refl _ _) (S2.out _ hS)).mono ?_;rintro e W1 ⟨rfl,b6⟩;have hS:=ca.go hS b6;have B6:=Lh b6;clear b6 gm g1 gc
  go_wp2_with (first
   | (refine ZQ rfl _ _ rfl Tryz.underlying170 Tryz.underlying3 bl.out rfl tag rfl (z:=.nilIface) rfl ?_;rw[Hv.out,LL])
   | (refine QT rfl 25 _ rfl ⟨C,0,none⟩ rfl p.cells.toList _ (Yx (S0.out _ hS)) Tryz.underlying25 rfl (by kernel_rfl) ?_;rw[Nw])
   | (refine wpList_load_row rfl 65 _ rfl X rfl 65 (Nd.cells ⟨tag,nn⟩).toArray (0,0) _ (S6.out _ hS) Tryz.underlying65 rfl (by kernel_rfl) ?_))
  refine(cb.out _ W1 B6.out (S2.out _ hS)).mono ?_;rintro e W2 ⟨WA,ct,rfl,ax,b7⟩;have hS:=ca.go hS b7;have aa:=cv.out;have ac:=cy.out;clear b7 B6 cc cb;have bq:=Lh (YF (V:=p.V) (ks:=ks) aa ac).1;have br:=Lh (YF (V:=p.V) (ks:=ks) aa ac).2.1;have bs:=Lh (YF (V:=p.V) (ks:=ks) aa ac).2.2.1;have a2:=Lh (YF (V:=p.V) (ks:=ks) aa ac).2.2.2;clear aa ac;by_cases ae:iv= -1
  ·have e1:(iv== -1)=true:=by simpa using ae
   have hz:=Lh (bq.out ae);clear ae;go_wp2
   go_ret
   exact⟨QS hz.out,S4.out _ hS⟩
  have e1:(iv== -1)=false:=by simpa using ae
  have bn:=Lh ae;clear ae;by_cases ab:d.length=ks.length;rotate_left
  ·have e2:((d.length:Int) != (pos.length:Int))=true:=by simp;have:=s.out;omega
   have hz:=Lh (br.out ab);clear ab;go_wp2
   go_ret
   exact⟨QS hz.out,S4.out _ hS⟩
  have e2:((d.length:Int) != (pos.length:Int))=false:=by simp;have:=s.out;omega
  have g:=Lh ab;clear ab;obtain⟨T,ag⟩:∃T:World->Prop,T=(λW=>S W/\Rd W WA (Qi d)):=⟨_,rfl⟩;have da:St T:=by rw[ag];infer_instance
  have T0:Hid (∀W,T W->S W):=by show ∀W,_;rw[ag];exact λW h=>h.1
  have T1:Hid (∀W,T W->Rd W WA (Qi d)):=by show ∀W,_;rw[ag];exact λW h=>h.2
  have hT:T W2:=by rw[ag];exact⟨hS,ax⟩
  have TC:Hid (∀W,T W->Row W C 173 (Xi p M)):=by show ∀W,_;exact λW h=>S0.out _ (T0.out _ h)
  clear ag hS ax;go_wp2
  go_loopw [54] (λi wr=>∃k:Nat,i=.int .i64 (k:Int)/\k<=pos.length/\T wr/\Hid (AdR p.V (ZH ⟨tag,nn⟩) ks d k)) (λi _=>pos.length-(intOf i).toNat)
  case atStart=>exact⟨0,rfl,Nat.zero_le _,hT,Lh (λj _ _ hj=>by omega)⟩
  case round=>
   clear hT;obtain⟨k,rfl,hk,ah,y⟩:=hrel;by_cases al:k<pos.length
   ·obtain⟨q',hq⟩:∃q,pos[k]? =some q:=⟨_,Lb al⟩;obtain⟨kt,ar⟩:∃kt,ks[k]? =some kt:=⟨_,Lb (by rw[<-s.out];exact al)⟩;obtain⟨u,hu⟩:∃u,d[k]? =some u:=⟨_,Lb (by rw[g.out, <-s.out];exact al)⟩;obtain⟨ai,aj⟩:=cd.out k q' kt hq ar;have a4:=Lh aj;have ay:=Lh ai;obtain⟨kd,aw,a6⟩:=Zg (l:=KX pos) (S1.out _ (T0.out _ ah)) (k:=k) (x:=(q':Int)) (by simp[KX,hq]);obtain⟨wd,b9,_⟩:=Zg (l:=d) (T1.out _ ah) (k:=k) (x:=u) hu;subst aw b9
    have bx:Hid (∀W,T W->W.cell? (wd.add k)=some (.int .i64 u)):=by
     show ∀W,_;intro W o;obtain⟨c0,e,h⟩:=Zg (l:=d) (T1.out _ o) (k:=k) (x:=u) hu;injection e with e;subst e;exact h
    have c7:(k:Int)<(pos.length:Int):=by omega
    have c8:(k:Int)<(d.length:Int):=by have:=g.out;have:=s.out;omega
    have c9:(q':Int)<(p.body.length:Int):=by have:=ai.lt;omega
    have af:=Lh ar;have Hu:=Lh hu;have cq:=bo.out;clear hq ar hu al aj ai;go_wp2_with fail
    refine JC T (by kernel_rfl) (by kernel_rfl) (St.drew ah) ?_;clear ah a6;(refine Zp rfl 173 _ rfl (C) rfl 173 _ _ TC.out Tryz.underlying173 rfl (by kernel_rfl) ?_;simp only[Act.put,Qa,Qb,Qc])
    iterate 1 (refine Qg rfl ?_ (λW o=>?_) ?_;rotate_left;(focus(go_simp;exact rfl));simp only[Act.put,Qa,Qb,Qc])
    (refine Q8 rfl 105 _ (λW=>by(go_simp;try rfl)) _ (λW o=>a4.out W (S2.out _ (T0.out _ o)) (S5.out _ (T0.out _ o))) ?_;simp only[Act.put,Qa,Qb,Qc])
    iterate 3 (refine Qg rfl ?_ (λW o=>?_) ?_;rotate_left;(focus(go_simp;exact rfl));simp only[Act.put,Qa,Qb,Qc])
    (refine Qg rfl ?_ (λW o=>?_) ?_;rotate_left;(focus(have c:=bx.out W o;go_simp;exact rfl));simp only[Act.put,Qa,Qb,Qc])
    iterate 1 (refine Qg rfl ?_ (λW o=>?_) ?_;rotate_left;(focus(go_simp;exact rfl));simp only[Act.put,Qa,Qb,Qc])
    refine Q4 λW o=>?_
    by_cases he:ofT p.V kt=u;rotate_left
    ·have bz:(ofT p.V kt != u)=true:=by simpa using he
     have hz:=Lh (a2.out (K5 g.out af.out Hu.out (λh=>he h.1)) g.out);clear he;go_wp2
     go_ret
     exact⟨QS hz.out,S4.out _ (T0.out _ o)⟩
    have bz:(ofT p.V kt != u)=false:=by simpa using he
    have He:=Lh he;have rX:=S6.out _ (T0.out _ o);have c1:=rX.cellv (i:=0) (v:=.int .i64 tag) rfl;have bb:=TC.out _ o;have bt:=bb.cellv (i:=2) (v:=.slice p.ba p.body.length p.bcap) rfl;obtain⟨bd,a5,a7⟩:=J6 (S2.out _ (T0.out _ o)).brd ay.out.root;have bw:=a7 0 (.int .i64 kt.root.tag) rfl;rw[show(bd.add (q'*2)).add 0=bd.add (q'*2) by rw[Xf];simp]at bw;rw[a5]at bt;clear he rX bb a7 a5;by_cases m:ZH ⟨tag,nn⟩=true
    ·have ak:tag=23\/tag=24:=by simpa[ZH]using m
     have bm:=Lh m;clear m;by_cases aq:k=0
     ·have am:=Lh (Kv y.out af.out Hu.out He.out (λ_ h=>by omega));subst aq;have e0:decide (((0:Nat):Int)<((0:Nat):Int))=false:=by simp
      rcases ak with rfl|rfl
      all_goals
       go_wp2
       go_roundw
       case rel=>exact⟨0+1,by go_num,by omega,o,am⟩
       case measure=>simp[intOf];omega
     ·have ck:0<(k:Int):=by omega
      by_cases hb:kt.root.tag=20
      ·have bv:(kt.root.tag != 20)=false:=by simp[hb]
       have am:=Lh (Kv y.out af.out Hu.out He.out (λ_ _=>hb));clear hb aq;rcases ak with rfl|rfl
       all_goals
        go_wp2
        go_roundw
        case rel=>exact⟨k+1,by go_num,by omega,o,am⟩
        case measure=>simp[intOf];omega
      ·have bv:(kt.root.tag != 20)=true:=by simpa using hb
       have hz:=Lh (a2.out (K5 g.out af.out Hu.out (λh=>hb (h.2 bm.out (by omega)))) g.out);clear hb aq;rcases ak with rfl|rfl
       all_goals
        go_wp2
        go_ret
        exact⟨QS hz.out,S4.out _ (T0.out _ o)⟩
    ·have am:=Lh (Kv y.out af.out Hu.out He.out (λh _=>absurd h m));have c4:(tag==23)=false:=by simp[ZH]at m;simp[m.1]
     have c5:(tag==24)=false:=by simp[ZH]at m;simp[m.2]
     clear m;go_wp2
     go_roundw
     case rel=>exact⟨k+1,by go_num,by omega,o,am⟩
     case measure=>simp[intOf];omega
   ·have c6:(pos.length:Int)<=(k:Int):=by omega
    have hz:=Lh (bs.out bn.out g.out (Abz g.out (by have:=s.out;omega) y.out));clear al;go_wp2
    go_ret
    exact⟨QS hz.out,S4.out _ (T0.out _ ah)⟩
theorem RS.rb{w W:World}{M:Nat}{D:List Int}(h:RS w W M D)(hD:∀k,k∈D<->(1<=k/\k<=26/\k≠20)):RB M W:=by
 obtain⟨c,d,e,g⟩:=h.map;subst e;exact⟨c,d,g,hD⟩
theorem Adt (p:PgV)(hbl:p.body.length<=1000)(t:Tr)(q:Nat)(hat:At p.body q t)(w:World)(hok:p.ok w):Calls Tryz.prog 62 #[.agg p.cells,.int .i64 (q:Int)] w λe w'=>e=.returned (.int .i64 (ofT p.V t))/\Below w.heap.size w w':=by
 have m:=Lh hbl;have aa:=Lh hat;have o:=Lh hok;have n:Hid (endZ p.body (q:Int)=((q+t.size:Nat):Int)):=hat.endZ;have ac:0<=((q+t.size:Nat):Int):=by omega
 clear hbl hat hok;go_enter Tryz.func62,Tryz.ntmps62
 go_wp2_with (refine Qq _ _ rfl ?_)
 refine Stop.to ?_;refine Qe rfl 25 _ rfl p.cells rfl ?_;intro G w1 hG z l;have l:=(Below.refl w.heap.size w).trans (l.mono hG);have c2:=z.cellv (i:=2) (v:=.slice p.ba p.body.length p.bcap) rfl;have d:=Lh (o.out.go l);clear hG o;go_wp2_with fail
 refine(JH p.ba p.bcap p.body (q:Int) w1 d.out.brd m.out).mono ?_;rintro e w2 ⟨rfl,y⟩;rw[n.out];obtain⟨S,c⟩:∃S,S=(λW=>Row W G 25 p.cells/\p.ok W/\Below w.heap.size w W):=⟨_,rfl⟩;have x:St S:=by rw[c];infer_instance
 have S0:Hid (∀W,S W->Row W G 25 p.cells):=by show ∀W,_;rw[c];exact λW h=>h.1
 have S1:Hid (∀W,S W->p.ok W):=by show ∀W,_;rw[c];exact λW h=>h.2.1
 have S2:Hid (∀W,S W->Below w.heap.size w W):=by show ∀W,_;rw[c];exact λW h=>h.2.2
 have s:S w2:=by rw[c];exact⟨z.below y z.lt,d.out.go y,l.trans (y.mono l.size)⟩
 clear c z l y c2 d;go_wp2_with fail
 refine wp_region_held (S:=S) (by kernel_rfl) ?_;simp only[Lk,Lc,Lo,Nat.reduceAdd,Li,Lj,Lp,Lm,Ll];show wpAnyH _ _ _ _ _ _ _ _ w2.drew;have j:S w2.drew:=St.drew s;clear s;generalize w2.drew=wd at j|-;(refine tkH 0 _ rfl (ZT rfl 25 _ rfl G rfl 25 p.cells _ S0.out Tryz.underlying25 rfl (by kernel_rfl)) ?_;simp only[Act.put,Qa,Qb,Qc]);(refine tkH 3 (.int .i64 (q:Int)) rfl (Qd rfl (λW hW=>by(go_simp))) ?_;simp only[Act.put,Qa,Qb,Qc]);(refine wpAnyH_all (rs:=[1]) (by kernel_rfl) (by simp) (λi hi=>?_);obtain rfl:i=1:=by simpa using hi);refine Qf rfl rfl (λK2 g=>?_);refine Qo (w1:=wd) 104 #[] (by go_simp;try rfl) ?_
 refine(Ahh wd).mono ?_;rintro e wr ⟨M,D,rfl,k,hD⟩;refine⟨_,rfl,g _ _ ?_⟩;clear g K2;have j:=x.go j k.below;have u:=k.rb hD;have ab:=Lh u;clear u k hD;simp only[Act.put,Qa,Qb,Qc];refine⟨j,?_⟩;(refine tkH 2 (.agg (Xi p M)) rfl (Qd rfl (λW hW=>by(go_simp;try rfl))) ?_;simp only[Act.put,Qa,Qb,Qc])
 (refine wpAnyH_all (rs:=[4]) (by kernel_rfl) (by simp) (λi hi=>?_);obtain rfl:i=4:=by simpa using hi);refine Qf rfl rfl (λK2 g=>?_);refine Qo (w1:=wr) 105 #[.agg (Xi p M),.int .i64 (q:Int)] (by go_simp;try rfl) ?_
 refine(Aka p M m.out t.size t q (Nat.le_refl _) aa.out wr (S1.out _ j) ab.out).mono ?_;rintro e w6 ⟨rfl,b6⟩;refine⟨_,rfl,g _ _ ?_⟩;clear g K2;have j:=x.go j b6;simp only[Act.put,Qa,Qb,Qc];refine⟨j,?_⟩;(refine tkH 5 (.int .i64 (ofT p.V t)) rfl (Qd rfl (λW hW=>by(go_simp))) ?_;simp only[Act.put,Qa,Qb,Qc]);refine wpAnyH_done (by kernel_rfl) ?_ _;go_wp2
 go_ret
 exact⟨rfl,S2.out _ j⟩
end Go.Proofs.YtkoikjnlpifbjaaGreat
