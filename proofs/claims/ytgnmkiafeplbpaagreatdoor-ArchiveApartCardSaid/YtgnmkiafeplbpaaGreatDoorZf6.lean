/- Lemmas for ArAll. -/
import Derived.Test.YtgnmkiafeplbpaaGreatDoorZf1
import Derived.Test.YtgnmkiafeplbpaaGreatDoorZf5
set_option linter.unusedVariables false
set_option linter.unusedSimpArgs false
set_option maxRecDepth 100000
set_option maxHeartbeats 16000000
namespace Go.Proofs.YtgnmkiafeplbpaaGreatDoor
open Go.RowKit Go.Deep
theorem UG{V:List Int}{inn:Bool}:∀(ks:List Tr) (want:List Int) (f:Bool),want.length=ks.length->(Q1 V inn f ks want=true<->∀(j:Nat) (t:Tr) (w:Int),ks[j]? =some t->want[j]? =some w->ofT V t=w/\(inn=true->(f=false\/0<j)->t.root.tag=20))
 |[],[],f,_=>by rw[Af3];simp
 |t::ts,k::ws,f,h=>by
  rw[AeC]
  have ih:=UG (V:=V) (inn:=inn) ts ws false (by simpa using h)
  constructor
  ·intro hh
   simp only[LK]at hh
   obtain⟨⟨h1,h2⟩,h3⟩:=hh
   have h3:=ih.1 h3
   intro j t' w' ht hw
   cases j with
   |zero=>
    simp at ht hw;subst ht hw
    refine⟨by simpa using h1,λhi hf=>?_⟩
    rcases hf with hf|hf
    ·subst hi hf;simpa using h2
    ·omega
   |succ j=>
    simp at ht hw
    have:=h3 j t' w' ht hw
    exact⟨this.1,λhi _=>this.2 hi (.inl rfl)⟩
  ·intro hh
   simp only[LK]
   refine⟨⟨?_,?_⟩,ih.2 λj t' w' ht hw=>?_⟩
   ·have:=(hh 0 t k rfl rfl).1;simpa using this
   ·cases hi:inn with
    |false=>simp
    |true=>
     cases hf:f with
     |true=>simp
     |false=>have:=(hh 0 t k rfl rfl).2 hi (.inl hf);simp[this]
   ·have:=hh (j+1) t' w' (by simpa using ht) (by simpa using hw)
    exact⟨this.1,λhi _=>this.2 hi (.inr (by omega))⟩
structure RB (M:Nat)(W:World):Prop where
 ex:∃es,MapB W M es/\(∀p∈es,RuleR W p.1 p.2)/\∀k,k∈es.map (·.1)<->(1<=k/\k<=26/\k≠20)
theorem RB.go{M:Nat}{W W':World}(h:RB M W)(b:Below W.heap.size W W'):RB M W':=by
 obtain⟨c,a,d,e⟩:=h.ex;exact⟨c,a.below b a.lt,λp g=>(d p g).go b,e⟩
instance St.rb{M:Nat}:St (λW=>RB M W):=⟨λh b=>h.go b⟩
def KZ (p:PgV)(M:Nat):Array Value:=#[.int .i64 p.params,.slice p.va p.V.length p.vcap,.slice p.ba p.body.length p.bcap,.map (some M)]
theorem YB{W:World}{C M:Nat}{p:PgV}(h:Row W C 256 (KZ p M)):∀j v,p.cells.toList[j]? =some v->W.cell? ((⟨C,0,none⟩:Addr).add j)=some v:=
 h.from_ 0 (cs:=p.cells.toList) (λj v hj=>by
  rw[LS]
  have hlt:=(Lf.1 hj).1
  simp only[PgV.cells,Le,Ll]at hlt
  have:j=0\/j=1\/j=2:=by omega
  rcases this with rfl|rfl|rfl<;>simpa[PgV.cells,KZ]using hj)
theorem AeR{tag is:Int}{want:List Int}(h:JK tag=some (is,want)):
 (tag=1/\is=0/\want=[])\/(tag=2/\is=1/\want=[])\/(tag=5/\is=0/\want=[0])\/(tag=6/\is=1/\want=[1])\/(tag=18/\is=1/\want=[1,1])\/(tag=19/\is=1/\want=[1,1])\/(tag=23/\is=2/\want=[1,2,2])\/(tag=24/\is=2/\want=[1,2])\/(tag=25/\is=2/\want=[0])\/(tag=26/\is=2/\want=[])\/((7<=tag/\tag<=11)/\is=0/\want=[0,0])\/((12<=tag/\tag<=17)/\is=1/\want=[0,0]):=by
 have b:∀{o:Option (Int×List Int)} {a:Int} {l:List Int},o=some (is,want)->o=some (a,l)->is=a/\want=l:=λi e=>by
  rw[i]at e;injection e with e;injection e with h3 h4;exact⟨h3,h4⟩
 by_cases i:tag=1
 ·have:=b h (by unfold JK;rw[if_pos i]);exact .inl (⟨i,this.1,this.2⟩)
 by_cases e:tag=2
 ·have:=b h (by unfold JK;rw[if_neg i,if_pos e]);exact .inr (.inl (⟨e,this.1,this.2⟩))
 by_cases m:tag=5
 ·have:=b h (by unfold JK;rw[if_neg i,if_neg e,if_pos m]);exact .inr (.inr (.inl (⟨m,this.1,this.2⟩)))
 by_cases p:tag=6
 ·have:=b h (by unfold JK;rw[if_neg i,if_neg e,if_neg m,if_pos p]);exact .inr (.inr (.inr (.inl (⟨p,this.1,this.2⟩))))
 by_cases c:tag=18
 ·have:=b h (by unfold JK;rw[if_neg i,if_neg e,if_neg m,if_neg p,if_pos c]);exact .inr (.inr (.inr (.inr (.inl (⟨c,this.1,this.2⟩)))))
 by_cases d:tag=19
 ·have:=b h (by unfold JK;rw[if_neg i,if_neg e,if_neg m,if_neg p,if_neg c,if_pos d]);exact .inr (.inr (.inr (.inr (.inr (.inl (⟨d,this.1,this.2⟩))))))
 by_cases g:tag=23
 ·have:=b h (by unfold JK;rw[if_neg i,if_neg e,if_neg m,if_neg p,if_neg c,if_neg d,if_pos g]);exact .inr (.inr (.inr (.inr (.inr (.inr (.inl (⟨g,this.1,this.2⟩)))))))
 by_cases j:tag=24
 ·have:=b h (by unfold JK;rw[if_neg i,if_neg e,if_neg m,if_neg p,if_neg c,if_neg d,if_neg g,if_pos j]);exact .inr (.inr (.inr (.inr (.inr (.inr (.inr (.inl (⟨j,this.1,this.2⟩))))))))
 by_cases k:tag=25
 ·have:=b h (by unfold JK;rw[if_neg i,if_neg e,if_neg m,if_neg p,if_neg c,if_neg d,if_neg g,if_neg j,if_pos k]);exact .inr (.inr (.inr (.inr (.inr (.inr (.inr (.inr (.inl (⟨k,this.1,this.2⟩)))))))))
 by_cases n:tag=26
 ·have:=b h (by unfold JK;rw[if_neg i,if_neg e,if_neg m,if_neg p,if_neg c,if_neg d,if_neg g,if_neg j,if_neg k,if_pos n]);exact .inr (.inr (.inr (.inr (.inr (.inr (.inr (.inr (.inr (.inl (⟨n,this.1,this.2⟩))))))))))
 by_cases q:7<=tag/\tag<=11
 ·have:=b h (by unfold JK;rw[if_neg i,if_neg e,if_neg m,if_neg p,if_neg c,if_neg d,if_neg g,if_neg j,if_neg k,if_neg n,if_pos q]);exact .inr (.inr (.inr (.inr (.inr (.inr (.inr (.inr (.inr (.inr (.inl (⟨q,this.1,this.2⟩)))))))))))
 by_cases s:12<=tag/\tag<=17
 ·have:=b h (by unfold JK;rw[if_neg i,if_neg e,if_neg m,if_neg p,if_neg c,if_neg d,if_neg g,if_neg j,if_neg k,if_neg n,if_neg q,if_pos s]);exact .inr (.inr (.inr (.inr (.inr (.inr (.inr (.inr (.inr (.inr (.inr (⟨s,this.1,this.2⟩)))))))))))
 ·exfalso;have t:JK tag=none:=by unfold JK;rw[if_neg i,if_neg e,if_neg m,if_neg p,if_neg c,if_neg d,if_neg g,if_neg j,if_neg k,if_neg n,if_neg q,if_neg s]
  rw[t]at h;cases h
theorem AhU{V:List Int}{tag n is:Int}{want:List Int}(h:JK tag=some (is,want))(m:Nat):isZ V ⟨tag,n⟩=is/\Q8 V ⟨tag,n⟩ m=want:=by
 rcases AeR h with⟨rfl,rfl,rfl⟩|⟨rfl,rfl,rfl⟩|⟨rfl,rfl,rfl⟩|⟨rfl,rfl,rfl⟩|⟨rfl,rfl,rfl⟩|⟨rfl,rfl,rfl⟩|⟨rfl,rfl,rfl⟩|⟨rfl,rfl,rfl⟩|⟨rfl,rfl,rfl⟩|⟨rfl,rfl,rfl⟩|⟨a,rfl,rfl⟩|⟨a,rfl,rfl⟩
 iterate 10 (exact⟨rfl,rfl⟩)
 all_goals
  unfold isZ Q8
  dsimp only
  refine⟨?_,?_⟩<;>(repeat(first|rw[if_pos (by omega)]|rw[if_neg (by omega)]))
theorem Alr{V:List Int}{tag n is:Int}{want:List Int}(h:AkO tag=some (is,want))(m:Nat):isZ V ⟨tag,n⟩=Yz V n is/\Q8 V ⟨tag,n⟩ m=want:=by
 unfold AkO at h
 repeat' split at h
 all_goals cases h
 all_goals(subst_vars;exact⟨rfl,rfl⟩)
theorem AfP{V:List Int}{tag n:Int}{b:Bool}(h:tag=3/\b=false\/tag=21/\b=true)(m:Nat):isZ V ⟨tag,n⟩=XF V n b/\(isZ V ⟨tag,n⟩≠ -1->Q8 V ⟨tag,n⟩ m=KB V n b):=by
 rcases h with⟨rfl,rfl⟩|⟨rfl,rfl⟩
 ·exact⟨rfl,λ_=>by unfold KB;rw[if_neg (by simp)];rfl⟩
 ·refine⟨rfl,λa=>?_⟩
  have c:Ks V n=true:=by
   cases c:Ks V n with
   |true=>rfl
   |false=>exact absurd (show isZ V ⟨21,n⟩= -1 by show(if Ks V n=true then(2:Int)else-1)= -1;rw[c];rfl) a
  obtain⟨t,d,_⟩:=Aa3 c;unfold KB;rw[if_pos ⟨rfl,(Lf.1 d).1⟩];rfl
theorem Acr{V:List Int}{n:Int}(m:Nat):isZ V ⟨20,n⟩=2/\Q8 V ⟨20,n⟩ m=List.replicate m 2:=⟨rfl,rfl⟩
theorem YO{V:List Int}{x:Nd}{ks:List Tr}{iv:Int}{want:List Int}(hi:isZ V x=iv)(hw:iv≠ -1->Q8 V x ks.length=want):
 (iv= -1->ofT V (.node x ks)= -1)/\(want.length≠ks.length->ofT V (.node x ks)= -1)/\(iv≠ -1->want.length=ks.length->Q1 V (JZ x) true ks want=true->ofT V (.node x ks)=iv)/\(Q1 V (JZ x) true ks want=false->want.length=ks.length->ofT V (.node x ks)= -1):=by
 by_cases h:iv= -1
 ·have:ofT V (.node x ks)= -1:=by rw[ofT,if_pos (.inl (hi.trans h))]
  exact⟨λ_=>this,λ_=>this,λe=>absurd h e,λ_ _=>this⟩
 ·have c:=hw h;clear hw;subst hi c;refine⟨λe=>absurd e h,λa=>?_,λ_ a b=>?_,λb a=>?_⟩
  ·rw[ofT,if_pos (.inr a)]
  ·rw[ofT,if_neg (by simp[h,a]),if_pos b]
  ·rw[ofT,if_neg (by simp[h,a]),b];rfl
theorem KS{V:List Int}{inn:Bool}{ks:List Tr}{want:List Int}(hl:want.length=ks.length){j:Nat}{t:Tr}{w:Int}(ht:ks[j]? =some t)(hw:want[j]? =some w)(h:¬(ofT V t=w/\(inn=true->0<j->t.root.tag=20))):Q1 V inn true ks want=false:=by
 cases hk:Q1 V inn true ks want with
 |false=>rfl
 |true=>
  have:=(UG ks want true hl).1 hk j t w ht hw;exact absurd ⟨this.1,λa b=>this.2 a (.inr b)⟩ h
def AeD (V:List Int)(inn:Bool)(ks:List Tr)(want:List Int)(k:Nat):Prop:=∀(j:Nat) (t:Tr) (w:Int),j<k->ks[j]? =some t->want[j]? =some w->ofT V t=w/\(inn=true->0<j->t.root.tag=20)
theorem Kq{V:List Int}{inn:Bool}{ks:List Tr}{want:List Int}{k:Nat}{t:Tr}{w:Int}(h:AeD V inn ks want k)(ht:ks[k]? =some t)(hw:want[k]? =some w)(h1:ofT V t=w)(h2:inn=true->0<k->t.root.tag=20):AeD V inn ks want (k+1):=λj t' w' hj ht' hw'=>by
 by_cases e:j=k
 ·subst e;rw[ht]at ht';rw[hw]at hw';injection ht' with e1;injection hw' with e2;subst e1 e2;exact⟨h1,h2⟩
 ·exact h j t' w' (by omega) ht' hw'
theorem AcC{V:List Int}{inn:Bool}{ks:List Tr}{want:List Int}{k:Nat}(hl:want.length=ks.length)(hk:ks.length<=k)(h:AeD V inn ks want k):Q1 V inn true ks want=true:=
 (UG ks want true hl).2 λj t w ht hw=>by
  have:=h j t w (by have:=(Lf.1 ht).1;omega) ht hw
  exact⟨this.1,λhi hf=>this.2 hi (hf.elim (λe=>by cases e) id)⟩
section
variable {A:Option Addr} {m cap:Nat} {is:Int} {b:Bool}
theorem Af0 (f:Nat)(w:World):(method (f+1) 296 (.agg #[.slice A m cap,.int .i64 is]) "offshoot/kinds.kind").run Tryz.prog w=.ok (356,.agg #[.slice A m cap,.int .i64 is]) w:=by kernel_rfl
theorem AfZ (f:Nat)(w:World):(method (f+1) 300 (.agg #[.slice A m cap,.int .i64 is]) "offshoot/kinds.kind").run Tryz.prog w=.ok (358,.agg #[.slice A m cap,.int .i64 is]) w:=by kernel_rfl
theorem Aew (f:Nat)(w:World):(method (f+1) 298 (.agg #[.bool b]) "offshoot/kinds.kind").run Tryz.prog w=.ok (357,.agg #[.bool b]) w:=by kernel_rfl
end
theorem AmT{W:World}{p:PgV}{tag nn:Int}{v:Value}(k:Nat)(h:RuleR W tag v)(hn0:tag≠1->0<=nn):
 ∃ty x fk iv want,v=.iface ty x/\(∀w,(binOp .neq 302 (.iface ty x) .nilIface).run Tryz.prog w=.ok (.bool true) w)/\(∀f w,(method (f+1) ty x "offshoot/kinds.kind").run Tryz.prog w=.ok (fk,x) w)/\(∀a w,(callFunc fk a).run Tryz.prog w=.ok (.enter fk a) w)/\
  (∀W',Below W.heap.size W W'->p.ok W'->Calls Tryz.prog fk #[x,.agg p.cells,.agg (Nd.cells ⟨tag,nn⟩).toArray] W' λe w'=>e=.returned (.int .i64 iv)/\Below W'.heap.size W' w')/\
  (∀m W',Below W.heap.size W W'->p.ok W'->Calls Tryz.prog 243 #[.agg p.cells,.agg (Nd.cells ⟨tag,nn⟩).toArray,.iface ty x,.int .i64 m] W' λe w'=>WantR want W' w' e)/\
  isZ p.V ⟨tag,nn⟩=iv/\(iv≠ -1->Q8 p.V ⟨tag,nn⟩ k=want):=by
 cases h with
 |plain is A m cap want hc c hr=>
  subst c;obtain⟨d,g⟩:=AhU (V:=p.V) (n:=nn) hc k;exact⟨_,_,_,_,want,rfl,λ_=>by kernel_rfl,λf w=>Af0 f w,λ_ _=>by kernel_rfl,λW' _ _=>AbN A want.length cap is p ⟨tag,nn⟩ W',λm W' b _=>(AdO A want.length cap is p ⟨tag,nn⟩ m W').mono λe w' ⟨e1,b1⟩=>⟨A,cap,e1,(hr.go b).go b1,b1⟩,d,λ_=>g⟩
 |scalar b h=>
  obtain⟨d,g⟩:=AfP (V:=p.V) (n:=nn) h k;have c:=hn0 (by omega);exact⟨_,_,_,_,_,rfl,λ_=>by kernel_rfl,λf w=>Aew f w,λ_ _=>by kernel_rfl,λW' _ i=>Abm b p tag nn W' i c,λm W' _ i=>Ac3 b p tag nn c m W' i,d,λh=>g (by rw[d];exact h)⟩
 |array is A m cap want hc c hr=>
  subst c;obtain⟨d,g⟩:=Alr (V:=p.V) (n:=nn) hc k;have c:=hn0 (λe=>by subst e;simp[AkO]at hc);exact⟨_,_,_,_,want,rfl,λ_=>by kernel_rfl,λf w=>AfZ f w,λ_ _=>by kernel_rfl,λW' _ i=>AbD A want.length cap is p tag nn W' i c,λm W' b _=>(AdN A want.length cap is p ⟨tag,nn⟩ m W').mono λe w' ⟨e1,b1⟩=>⟨A,cap,e1,(hr.go b).go b1,b1⟩,d,λ_=>g⟩
theorem AlD (p:PgV)(M:Nat)(hbl:p.body.length<=1000):∀(n:Nat) (t:Tr) (q:Nat),t.size<=n->At p.body q t->∀w,p.ok w->RB M w->Calls Tryz.prog 203 #[.agg (KZ p M),.int .i64 (q:Int)] w λe w'=>e=.returned (.int .i64 (ofT p.V t))/\Below w.heap.size w w':=by
 intro n
 induction n with
 |zero=>intro t q hn;have:=t.size_eq;omega
 |succ n ih=>
 intro t q hn an w cn cp;obtain⟨⟨tag,nn⟩,ks⟩:=t;have cs:=Lv hbl;have b0:kidsZ p.body (q:Int)=YM (Zm (q+1) ks):=an.kidsZ;obtain⟨pos,ar⟩:∃pos,pos=Zm (q+1) ks:=⟨_,rfl⟩;rw[<-ar]at b0;have cu:=Lv b0;have m:Hid (pos.length=ks.length):=by show _=_;rw[ar,X4]
 have cm:∀(i q':Nat) (k:Tr),pos[i]? =some q'->ks[i]? =some k->At p.body q' k/\∀W,p.ok W->RB M W->Calls Tryz.prog 203 #[.agg (KZ p M),.int .i64 (q':Int)] W λe W'=>e=.returned (.int .i64 (ofT p.V k))/\Below W.heap.size W W':=by
  intro i q' k h1 hk;rw[ar]at h1;obtain⟨ch,_⟩:=an.kids.spot i q' k h1 hk;refine⟨ch,ih k q' ?_ ch⟩;have h3:=U4 (Li hk);have h4:=(Tr.node ⟨tag,nn⟩ ks).size_eq;simp only[Tr.kids]at h4;omega
 have bm:Hid (pos.length<=1000):=by
  show _<=_
  have h5:∀(ts:List Tr),ts.length<=(QM ts).length:=λts=>by
   induction ts with
   |nil=>simp
   |cons t ts ih=>rw[QM,La,Le];have:=t.size_eq;have de:t.size=t.flat.length:=rfl;omega
  have h3:=h5 ks;have h4:=(Tr.node ⟨tag,nn⟩ ks).size_eq;simp only[Tr.kids]at h4;have:=an.le;rw[m.out];omega
 have cb:=Lv cm;have bh:=an.fits;have bs:0<=Qy ⟨tag,nn⟩:=by have:=bh.arity;simp only[Tr.root,Tr.kids]at this;omega
 have bi:1<=tag/\tag<=26:=by
  by_cases h:1<=tag/\tag<=26
  ·exact h
  ·rw[VM h]at bs;omega
 have ck:tag≠1->0<=nn:=λh=>by have:=Aho bs;simp only at this;omega
 have cw:=Lv ck;have bn:Hid (p.body[q]? =some ⟨tag,nn⟩):=an.root;have dd:(q:Int)<(p.body.length:Int):=by have:=an.lt;omega
 have cc:=Lv cn;have cd:=Lv cp;have bg:=Lv bi;clear b0 cm bh bs ck cn ar an ih hbl hn cp bi;go_enter Tryz.func203,Tryz.ntmps203
 go_wp2_with (refine Qx _ _ rfl ?_)
 refine Stop.to ?_;refine Qf rfl 256 _ rfl (KZ p M) rfl ?_;intro C w1 hC rC b1;have b1:=(Below.refl w.heap.size w).trans (b1.mono hC);have c2:=rC.cellv (i:=2) (v:=.slice p.ba p.body.length p.bcap) rfl;have ax:=Lv (cc.out.go b1);have be:=Lv (cd.out.go b1);obtain⟨ad,cf,hc⟩:=JG ax.out.brd bn.out;have Hc:=Lv hc;have ce:=c2;rw[cf]at ce;clear hC cc cd c2 hc cf
 go_wp2_with (first
  | (refine Qn rfl 52 _ rfl (ad.add (q*2)) rfl (Nd.cells ⟨tag,nn⟩) _ Hc.out Tryz.underlying52 rfl (by kernel_rfl) ?_)
  | (refine Qs _ rfl ?_))
 refine Stop.to ?_;refine Qi rfl 52 rfl _ _ Aix rfl ?_;intro X w3 hX rX b3;go_wp2_with (refine Qk _ _ _ rfl ?_)
 refine Stop.to ?_;refine Qh rfl 52 _ _ rfl X (Nd.cells ⟨tag,nn⟩).toArray rfl rfl 52 _ rX (by kernel_rfl) rfl (by simp[Nd.cells,Value.oneCell']) ?_;intro w4 r4 o4;have a1:Below w1.heap.size w1 w4:=(b3.mono hX).trans (o4.below hX);have rC:=rC.below a1 rC.lt;have ay:=Lv (ax.out.go a1);have bf:=Lv (be.out.go a1);have b4:=b1.trans (a1.mono b1.size);have c2:=rC.cellv (i:=2) (v:=.slice p.ba p.body.length p.bcap) rfl;clear b3 o4 rX a1 b1 ax be ce hX Hc;go_wp2_with fail
 refine(Aeq p.ba p.bcap p.body (q:Int) w4 ay.out.brd cs.out).mono ?_;rintro e W ⟨kv,rfl,a7,b5⟩;rw[cu.out,Acy]at a7;obtain⟨KA,c9,rfl,cj,db,dc⟩:=Af7 a7;have rC:=rC.below b5 rC.lt;have r4:=r4.below b5 r4.lt;have bc:=Lv (ay.out.go b5);have az:=Lv (bf.out.go b5);have b5:=b4.trans (b5.mono b4.size);have da:=r4.cellv (i:=0) (v:=.int .i64 tag) rfl;have c3:=rC.cellv (i:=3) (v:=.map (some M)) rfl;obtain⟨S,al⟩:∃S,S=(λW=>Row W C 256 (KZ p M)/\Row W X 52 (Nd.cells ⟨tag,nn⟩).toArray/\Rd W KA (Qj (YM pos))/\p.ok W/\RB M W/\Below w.heap.size w W):=⟨_,rfl⟩;have b8:St S:=by rw[al];infer_instance
 have S0:Hid (∀W,S W->Row W C 256 (KZ p M)):=by show ∀W,_;rw[al];exact λW h=>h.1
 have S6:Hid (∀W,S W->Row W X 52 (Nd.cells ⟨tag,nn⟩).toArray):=by show ∀W,_;rw[al];exact λW h=>h.2.1
 have S1:Hid (∀W,S W->Rd W KA (Qj (YM pos))):=by show ∀W,_;rw[al];exact λW h=>h.2.2.1
 have S2:Hid (∀W,S W->p.ok W):=by show ∀W,_;rw[al];exact λW h=>h.2.2.2.1
 have S5:Hid (∀W,S W->RB M W):=by show ∀W,_;rw[al];exact λW h=>h.2.2.2.2.1
 have S4:Hid (∀W,S W->Below w.heap.size w W):=by show ∀W,_;rw[al];exact λW h=>h.2.2.2.2.2
 have hS:S W:=by rw[al];exact⟨rC,r4,cj,bc.out,az.out,b5⟩
 obtain⟨es,bz,bx,bb⟩:=az.out.ex;have bj:=Lv bz;clear a7 c2 ay bf b4 al rC r4 cj bc az b5;by_cases a9:tag=20
 ·have aq:=Lv a9;have cl:KY tag es=none:=Ux (λh=>((bb tag).1 h).2.2 a9);have Hv:=Lv cl;clear bx bb cl bz a9
  go_wp2_with (first
   | (refine Ki rfl _ _ rfl Tryz.underlying253 Tryz.underlying3 bj.out rfl tag rfl (z:=.nilIface) rfl ?_;rw[Hv.out,Option.getD_none])
   | (refine Qn rfl 25 _ rfl ⟨C,0,none⟩ rfl p.cells.toList _ (YB (S0.out _ hS)) Tryz.underlying25 rfl (by kernel_rfl) ?_;rw[Array.toArray_toList])
   | (refine wpList_load_row rfl 52 _ rfl X rfl 52 (Nd.cells ⟨tag,nn⟩).toArray (0,0) _ (S6.out _ hS) Tryz.underlying52 rfl (by kernel_rfl) ?_))
  refine(Ahq p ⟨tag,nn⟩ pos.length bm.out W).mono ?_;rintro e W2 ⟨WA,cr,rfl,av,b6⟩;have hS:=b8.go hS b6;obtain⟨iv,a6⟩:∃iv:Int,iv=2:=⟨2,rfl⟩;have s:isZ p.V ⟨tag,nn⟩=iv:=by rw[a6,aq.out];exact(Acr 0).1
  obtain⟨a,am⟩:∃a:List Int,a=List.replicate pos.length 2:=⟨_,rfl⟩;have aa:iv≠ -1->Q8 p.V ⟨tag,nn⟩ ks.length=a:=λ_=>by rw[am,m.out,aq.out];exact(Acr (V:=p.V) (n:=nn) ks.length).2
  rw[<-am]at av|-;rw[<-a6];clear a6 am b6;have bo:=Lv (YO (V:=p.V) (ks:=ks) s aa).1;have bp:=Lv (YO (V:=p.V) (ks:=ks) s aa).2.1;have bq:=Lv (YO (V:=p.V) (ks:=ks) s aa).2.2.1;have a0:=Lv (YO (V:=p.V) (ks:=ks) s aa).2.2.2;clear s aa;by_cases ab:iv= -1
  ·have e1:(iv== -1)=true:=by simpa using ab
   have hz:=Lv (bo.out ab);clear ab;go_wp2
   go_ret
   exact⟨Zp hz.out,S4.out _ hS⟩
  have e1:(iv== -1)=false:=by simpa using ab
  have bl:=Lv ab;clear ab;by_cases y:a.length=ks.length;rotate_left
  ·have e2:((a.length:Int) != (pos.length:Int))=true:=by simp;have:=m.out;omega
   have hz:=Lv (bp.out y);clear y;go_wp2
   go_ret
   exact⟨Zp hz.out,S4.out _ hS⟩
  have e2:((a.length:Int) != (pos.length:Int))=false:=by simp;have:=m.out;omega
  have b:=Lv y;clear y;obtain⟨T,ae⟩:∃T:World->Prop,T=(λW=>S W/\Rd W WA (Qj a)):=⟨_,rfl⟩;have c8:St T:=by rw[ae];infer_instance
  have T0:Hid (∀W,T W->S W):=by show ∀W,_;rw[ae];exact λW h=>h.1
  have T1:Hid (∀W,T W->Rd W WA (Qj a)):=by show ∀W,_;rw[ae];exact λW h=>h.2
  have hT:T W2:=by rw[ae];exact⟨hS,av⟩
  have TC:Hid (∀W,T W->Row W C 256 (KZ p M)):=by show ∀W,_;exact λW h=>S0.out _ (T0.out _ h)
  clear ae hS av;go_wp2
  go_loopw [54] (λi wr=>∃k:Nat,i=.int .i64 (k:Int)/\k<=pos.length/\T wr/\Hid (AeD p.V (JZ ⟨tag,nn⟩) ks a k)) (λi _=>pos.length-(intOf i).toNat)
  case atStart=>exact⟨0,rfl,Nat.zero_le _,hT,Lv (λj _ _ hj=>by omega)⟩
  case round=>
   clear hT;obtain⟨k,rfl,hk,af,o⟩:=hrel;by_cases aj:k<pos.length
   ·obtain⟨q',hq⟩:∃q,pos[k]? =some q:=⟨_,Ld aj⟩;obtain⟨kt,ap⟩:∃kt,ks[k]? =some kt:=⟨_,Ld (by rw[<-m.out];exact aj)⟩;obtain⟨u,hu⟩:∃u,a[k]? =some u:=⟨_,Ld (by rw[b.out, <-m.out];exact aj)⟩;obtain⟨ag,ah⟩:=cb.out k q' kt hq ap;have a2:=Lv ah;have aw:=Lv ag;obtain⟨kd,au,a4⟩:=Q4 (l:=YM pos) (S1.out _ (T0.out _ af)) (k:=k) (x:=(q':Int)) (by simp[YM,hq]);obtain⟨wd,b2,_⟩:=Q4 (l:=a) (T1.out _ af) (k:=k) (x:=u) hu;subst au b2
    have bv:Hid (∀W,T W->W.cell? (wd.add k)=some (.int .i64 u)):=by
     show ∀W,_;intro W g;obtain⟨cy,e,h⟩:=Q4 (l:=a) (T1.out _ g) (k:=k) (x:=u) hu;injection e with e;subst e;exact h
    have c5:(k:Int)<(pos.length:Int):=by omega
    have c6:(k:Int)<(a.length:Int):=by have:=b.out;have:=m.out;omega
    have c7:(q':Int)<(p.body.length:Int):=by have:=ag.lt;omega
    have ac:=Lv ap;have Hu:=Lv hu;have co:=bm.out;clear hq ap hu aj ah ag;go_wp2_with fail
    refine QG T (by kernel_rfl) (by kernel_rfl) (St.drew af) ?_;clear af a4;(refine ZN rfl 256 _ rfl (C) rfl 256 _ _ TC.out Tryz.underlying256 rfl (by kernel_rfl) ?_;simp only[Act.put,Qa,Qb,Qc])
    iterate 1 (refine Qe rfl ?_ (λW g=>?_) ?_;rotate_left;(focus(go_simp;exact rfl));simp only[Act.put,Qa,Qb,Qc])
    (refine QA rfl 203 _ (λW=>by(go_simp;try rfl)) _ (λW g=>a2.out W (S2.out _ (T0.out _ g)) (S5.out _ (T0.out _ g))) ?_;simp only[Act.put,Qa,Qb,Qc])
    iterate 3 (refine Qe rfl ?_ (λW g=>?_) ?_;rotate_left;(focus(go_simp;exact rfl));simp only[Act.put,Qa,Qb,Qc])
    (refine Qe rfl ?_ (λW g=>?_) ?_;rotate_left;(focus(have c:=bv.out W g;go_simp;exact rfl));simp only[Act.put,Qa,Qb,Qc])
    iterate 1 (refine Qe rfl ?_ (λW g=>?_) ?_;rotate_left;(focus(go_simp;exact rfl));simp only[Act.put,Qa,Qb,Qc])
    refine QE λW g=>?_
    by_cases he:ofT p.V kt=u;rotate_left
    ·have bw:(ofT p.V kt != u)=true:=by simpa using he
     have hz:=Lv (a0.out (KS b.out ac.out Hu.out (λh=>he h.1)) b.out);clear he;go_wp2
     go_ret
     exact⟨Zp hz.out,S4.out _ (T0.out _ g)⟩
    have bw:(ofT p.V kt != u)=false:=by simpa using he
    have He:=Lv he;have rX:=S6.out _ (T0.out _ g);have cz:=rX.cellv (i:=0) (v:=.int .i64 tag) rfl;have a8:=TC.out _ g;have br:=a8.cellv (i:=2) (v:=.slice p.ba p.body.length p.bcap) rfl;obtain⟨bd,a3,a5⟩:=JG (S2.out _ (T0.out _ g)).brd aw.out.root;have bu:=a5 0 (.int .i64 kt.root.tag) rfl;rw[show(bd.add (q'*2)).add 0=bd.add (q'*2) by rw[Yy];simp]at bu;rw[a3]at br;clear he rX a8 a5 a3;by_cases d:JZ ⟨tag,nn⟩=true
    ·have ai:tag=23\/tag=24:=by simpa[JZ]using d
     have bk:=Lv d;clear d;by_cases ao:k=0
     ·have ak:=Lv (Kq o.out ac.out Hu.out He.out (λ_ h=>by omega));subst ao;have e0:decide (((0:Nat):Int)<((0:Nat):Int))=false:=by simp
      rcases ai with rfl|rfl
      all_goals
       go_wp2
       go_roundw
       case rel=>exact⟨0+1,by go_num,by omega,g,ak⟩
       case measure=>simp[intOf];omega
     ·have ci:0<(k:Int):=by omega
      by_cases hb:kt.root.tag=20
      ·have bt:(kt.root.tag != 20)=false:=by simp[hb]
       have ak:=Lv (Kq o.out ac.out Hu.out He.out (λ_ _=>hb));clear hb ao;rcases ai with rfl|rfl
       all_goals
        go_wp2
        go_roundw
        case rel=>exact⟨k+1,by go_num,by omega,g,ak⟩
        case measure=>simp[intOf];omega
      ·have bt:(kt.root.tag != 20)=true:=by simpa using hb
       have hz:=Lv (a0.out (KS b.out ac.out Hu.out (λh=>hb (h.2 bk.out (by omega)))) b.out);clear hb ao;rcases ai with rfl|rfl
       all_goals
        go_wp2
        go_ret
        exact⟨Zp hz.out,S4.out _ (T0.out _ g)⟩
    ·have ak:=Lv (Kq o.out ac.out Hu.out He.out (λh _=>absurd h d));have c0:(tag==23)=false:=by simp[JZ]at d;simp[d.1]
     have c1:(tag==24)=false:=by simp[JZ]at d;simp[d.2]
     clear d;go_wp2
     go_roundw
     case rel=>exact⟨k+1,by go_num,by omega,g,ak⟩
     case measure=>simp[intOf];omega
   ·have c4:(pos.length:Int)<=(k:Int):=by omega
    have hz:=Lv (bq.out bl.out b.out (AcC b.out (by have:=m.out;omega) o.out));clear aj;go_wp2
    go_ret
    exact⟨Zp hz.out,S4.out _ (T0.out _ af)⟩
 ·obtain⟨v,hv⟩:=Aah ((bb tag).2 ⟨bg.out.1,bg.out.2,a9⟩);have cq:=bx _ (AbZ hv);have Hv:=Lv hv;obtain⟨ty,x,fk,iv,a,rfl,g1,gm,gc,au,cg,s,aa⟩:=AmT (p:=p) ks.length cq cw.out;have ca:=Lv au;have b9:=Lv cg;have ct:=Lv s;have cx:=Lv aa;clear bx bb hv bz cq au cg s aa
  go_wp2_with (first
   | (refine Ki rfl _ _ rfl Tryz.underlying253 Tryz.underlying3 bj.out rfl tag rfl (z:=.nilIface) rfl ?_;rw[Hv.out,Nx])
   | (refine Qn rfl 25 _ rfl ⟨C,0,none⟩ rfl p.cells.toList _ (YB (S0.out _ hS)) Tryz.underlying25 rfl (by kernel_rfl) ?_;rw[Array.toArray_toList])
   | (refine wpList_load_row rfl 52 _ rfl X rfl 52 (Nd.cells ⟨tag,nn⟩).toArray (0,0) _ (S6.out _ hS) Tryz.underlying52 rfl (by kernel_rfl) ?_))
  refine(ca.out W (Below.refl _ _) (S2.out _ hS)).mono ?_;rintro e W1 ⟨rfl,b6⟩;have hS:=b8.go hS b6;have B6:=Lv b6;clear b6 gm g1 gc
  go_wp2_with (first
   | (refine Ki rfl _ _ rfl Tryz.underlying253 Tryz.underlying3 bj.out rfl tag rfl (z:=.nilIface) rfl ?_;rw[Hv.out,Nx])
   | (refine Qn rfl 25 _ rfl ⟨C,0,none⟩ rfl p.cells.toList _ (YB (S0.out _ hS)) Tryz.underlying25 rfl (by kernel_rfl) ?_;rw[Array.toArray_toList])
   | (refine wpList_load_row rfl 52 _ rfl X rfl 52 (Nd.cells ⟨tag,nn⟩).toArray (0,0) _ (S6.out _ hS) Tryz.underlying52 rfl (by kernel_rfl) ?_))
  refine(b9.out _ W1 B6.out (S2.out _ hS)).mono ?_;rintro e W2 ⟨WA,cr,rfl,av,b7⟩;have hS:=b8.go hS b7;have s:=ct.out;have aa:=cx.out;clear b7 B6 ca b9;have bo:=Lv (YO (V:=p.V) (ks:=ks) s aa).1;have bp:=Lv (YO (V:=p.V) (ks:=ks) s aa).2.1;have bq:=Lv (YO (V:=p.V) (ks:=ks) s aa).2.2.1;have a0:=Lv (YO (V:=p.V) (ks:=ks) s aa).2.2.2;clear s aa;by_cases ab:iv= -1
  ·have e1:(iv== -1)=true:=by simpa using ab
   have hz:=Lv (bo.out ab);clear ab;go_wp2
   go_ret
   exact⟨Zp hz.out,S4.out _ hS⟩
  have e1:(iv== -1)=false:=by simpa using ab
  have bl:=Lv ab;clear ab;by_cases y:a.length=ks.length;rotate_left
  ·have e2:((a.length:Int) != (pos.length:Int))=true:=by simp;have:=m.out;omega
   have hz:=Lv (bp.out y);clear y;go_wp2
   go_ret
   exact⟨Zp hz.out,S4.out _ hS⟩
  have e2:((a.length:Int) != (pos.length:Int))=false:=by simp;have:=m.out;omega
  have b:=Lv y;clear y;obtain⟨T,ae⟩:∃T:World->Prop,T=(λW=>S W/\Rd W WA (Qj a)):=⟨_,rfl⟩;have c8:St T:=by rw[ae];infer_instance
  have T0:Hid (∀W,T W->S W):=by show ∀W,_;rw[ae];exact λW h=>h.1
  have T1:Hid (∀W,T W->Rd W WA (Qj a)):=by show ∀W,_;rw[ae];exact λW h=>h.2
  have hT:T W2:=by rw[ae];exact⟨hS,av⟩
  have TC:Hid (∀W,T W->Row W C 256 (KZ p M)):=by show ∀W,_;exact λW h=>S0.out _ (T0.out _ h)
  clear ae hS av;go_wp2
  go_loopw [54] (λi wr=>∃k:Nat,i=.int .i64 (k:Int)/\k<=pos.length/\T wr/\Hid (AeD p.V (JZ ⟨tag,nn⟩) ks a k)) (λi _=>pos.length-(intOf i).toNat)
  case atStart=>exact⟨0,rfl,Nat.zero_le _,hT,Lv (λj _ _ hj=>by omega)⟩
  case round=>
   clear hT;obtain⟨k,rfl,hk,af,o⟩:=hrel;by_cases aj:k<pos.length
   ·obtain⟨q',hq⟩:∃q,pos[k]? =some q:=⟨_,Ld aj⟩;obtain⟨kt,ap⟩:∃kt,ks[k]? =some kt:=⟨_,Ld (by rw[<-m.out];exact aj)⟩;obtain⟨u,hu⟩:∃u,a[k]? =some u:=⟨_,Ld (by rw[b.out, <-m.out];exact aj)⟩;obtain⟨ag,ah⟩:=cb.out k q' kt hq ap;have a2:=Lv ah;have aw:=Lv ag;obtain⟨kd,au,a4⟩:=Q4 (l:=YM pos) (S1.out _ (T0.out _ af)) (k:=k) (x:=(q':Int)) (by simp[YM,hq]);obtain⟨wd,b2,_⟩:=Q4 (l:=a) (T1.out _ af) (k:=k) (x:=u) hu;subst au b2
    have bv:Hid (∀W,T W->W.cell? (wd.add k)=some (.int .i64 u)):=by
     show ∀W,_;intro W g;obtain⟨cy,e,h⟩:=Q4 (l:=a) (T1.out _ g) (k:=k) (x:=u) hu;injection e with e;subst e;exact h
    have c5:(k:Int)<(pos.length:Int):=by omega
    have c6:(k:Int)<(a.length:Int):=by have:=b.out;have:=m.out;omega
    have c7:(q':Int)<(p.body.length:Int):=by have:=ag.lt;omega
    have ac:=Lv ap;have Hu:=Lv hu;have co:=bm.out;clear hq ap hu aj ah ag;go_wp2_with fail
    refine QG T (by kernel_rfl) (by kernel_rfl) (St.drew af) ?_;clear af a4;(refine ZN rfl 256 _ rfl (C) rfl 256 _ _ TC.out Tryz.underlying256 rfl (by kernel_rfl) ?_;simp only[Act.put,Qa,Qb,Qc])
    iterate 1 (refine Qe rfl ?_ (λW g=>?_) ?_;rotate_left;(focus(go_simp;exact rfl));simp only[Act.put,Qa,Qb,Qc])
    (refine QA rfl 203 _ (λW=>by(go_simp;try rfl)) _ (λW g=>a2.out W (S2.out _ (T0.out _ g)) (S5.out _ (T0.out _ g))) ?_;simp only[Act.put,Qa,Qb,Qc])
    iterate 3 (refine Qe rfl ?_ (λW g=>?_) ?_;rotate_left;(focus(go_simp;exact rfl));simp only[Act.put,Qa,Qb,Qc])
    (refine Qe rfl ?_ (λW g=>?_) ?_;rotate_left;(focus(have c:=bv.out W g;go_simp;exact rfl));simp only[Act.put,Qa,Qb,Qc])
    iterate 1 (refine Qe rfl ?_ (λW g=>?_) ?_;rotate_left;(focus(go_simp;exact rfl));simp only[Act.put,Qa,Qb,Qc])
    refine QE λW g=>?_
    by_cases he:ofT p.V kt=u;rotate_left
    ·have bw:(ofT p.V kt != u)=true:=by simpa using he
     have hz:=Lv (a0.out (KS b.out ac.out Hu.out (λh=>he h.1)) b.out);clear he;go_wp2
     go_ret
     exact⟨Zp hz.out,S4.out _ (T0.out _ g)⟩
    have bw:(ofT p.V kt != u)=false:=by simpa using he
    have He:=Lv he;have rX:=S6.out _ (T0.out _ g);have cz:=rX.cellv (i:=0) (v:=.int .i64 tag) rfl;have a8:=TC.out _ g;have br:=a8.cellv (i:=2) (v:=.slice p.ba p.body.length p.bcap) rfl;obtain⟨bd,a3,a5⟩:=JG (S2.out _ (T0.out _ g)).brd aw.out.root;have bu:=a5 0 (.int .i64 kt.root.tag) rfl;rw[show(bd.add (q'*2)).add 0=bd.add (q'*2) by rw[Yy];simp]at bu;rw[a3]at br;clear he rX a8 a5 a3;by_cases d:JZ ⟨tag,nn⟩=true
    ·have ai:tag=23\/tag=24:=by simpa[JZ]using d
     have bk:=Lv d;clear d;by_cases ao:k=0
     ·have ak:=Lv (Kq o.out ac.out Hu.out He.out (λ_ h=>by omega));subst ao;have e0:decide (((0:Nat):Int)<((0:Nat):Int))=false:=by simp
      rcases ai with rfl|rfl
      all_goals
       go_wp2
       go_roundw
       case rel=>exact⟨0+1,by go_num,by omega,g,ak⟩
       case measure=>simp[intOf];omega
     ·have ci:0<(k:Int):=by omega
      by_cases hb:kt.root.tag=20
      ·have bt:(kt.root.tag != 20)=false:=by simp[hb]
       have ak:=Lv (Kq o.out ac.out Hu.out He.out (λ_ _=>hb));clear hb ao;rcases ai with rfl|rfl
       all_goals
        go_wp2
        go_roundw
        case rel=>exact⟨k+1,by go_num,by omega,g,ak⟩
        case measure=>simp[intOf];omega
      ·have bt:(kt.root.tag != 20)=true:=by simpa using hb
       have hz:=Lv (a0.out (KS b.out ac.out Hu.out (λh=>hb (h.2 bk.out (by omega)))) b.out);clear hb ao;rcases ai with rfl|rfl
       all_goals
        go_wp2
        go_ret
        exact⟨Zp hz.out,S4.out _ (T0.out _ g)⟩
    ·have ak:=Lv (Kq o.out ac.out Hu.out He.out (λh _=>absurd h d));have c0:(tag==23)=false:=by simp[JZ]at d;simp[d.1]
     have c1:(tag==24)=false:=by simp[JZ]at d;simp[d.2]
     clear d;go_wp2
     go_roundw
     case rel=>exact⟨k+1,by go_num,by omega,g,ak⟩
     case measure=>simp[intOf];omega
   ·have c4:(pos.length:Int)<=(k:Int):=by omega
    have hz:=Lv (bq.out bl.out b.out (AcC b.out (by have:=m.out;omega) o.out));clear aj;go_wp2
    go_ret
    exact⟨Zp hz.out,S4.out _ (T0.out _ af)⟩
theorem RS.rb{w W:World}{M:Nat}{D:List Int}(h:RS w W M D)(hD:∀k,k∈D<->(1<=k/\k<=26/\k≠20)):RB M W:=by
 obtain⟨a,b,c,d⟩:=h.map;subst c;exact⟨a,b,d,hD⟩
theorem AjB (p:PgV)(hbl:p.body.length<=1000)(t:Tr)(q:Nat)(hat:At p.body q t)(w:World)(hok:p.ok w):Calls Tryz.prog 131 #[.agg p.cells,.int .i64 (q:Int)] w λe w'=>e=.returned (.int .i64 (ofT p.V t))/\Below w.heap.size w w':=by
 have k:=Lv hbl;have z:=Lv hat;have m:=Lv hok;have l:Hid (endZ p.body (q:Int)=((q+t.size:Nat):Int)):=hat.endZ;have ab:0<=((q+t.size:Nat):Int):=by omega
 clear hbl hat hok;go_enter Tryz.func131,Tryz.ntmps131
 go_wp2_with (refine Qx _ _ rfl ?_)
 refine Stop.to ?_;refine Qf rfl 25 _ rfl p.cells rfl ?_;intro G w1 hG x j;have j:=(Below.refl w.heap.size w).trans (j.mono hG);have c2:=x.cellv (i:=2) (v:=.slice p.ba p.body.length p.bcap) rfl;have b:=Lv (m.out.go j);clear hG m;go_wp2_with fail
 refine(Xp p.ba p.bcap p.body (q:Int) w1 b.out.brd k.out).mono ?_;rintro e y ⟨rfl,u⟩;rw[l.out];obtain⟨S,a⟩:∃S,S=(λW=>Row W G 25 p.cells/\p.ok W/\Below w.heap.size w W):=⟨_,rfl⟩;have s:St S:=by rw[a];infer_instance
 have S0:Hid (∀W,S W->Row W G 25 p.cells):=by show ∀W,_;rw[a];exact λW h=>h.1
 have S1:Hid (∀W,S W->p.ok W):=by show ∀W,_;rw[a];exact λW h=>h.2.1
 have S2:Hid (∀W,S W->Below w.heap.size w W):=by show ∀W,_;rw[a];exact λW h=>h.2.2
 have n:S y:=by rw[a];exact⟨x.below u x.lt,b.out.go u,j.trans (u.mono j.size)⟩
 clear a x j u c2 b;go_wp2_with fail
 refine wp_region_held (S:=S) (by kernel_rfl) ?_;simp only[Ly,Le,Ll,Nat.reduceAdd,Ln,Lp,Lz,Lu,Lk];show wpAnyH _ _ _ _ _ _ _ _ y.drew;have d:S y.drew:=St.drew n;clear n;generalize y.drew=wd at d|-;(refine tkH 0 _ rfl (AbB rfl 25 _ rfl G rfl 25 p.cells _ S0.out Tryz.underlying25 rfl (by kernel_rfl)) ?_;simp only[Act.put,Qa,Qb,Qc]);(refine tkH 3 (.int .i64 (q:Int)) rfl (Qd rfl (λW hW=>by(go_simp))) ?_;simp only[Act.put,Qa,Qb,Qc]);(refine wpAnyH_all (rs:=[1]) (by kernel_rfl) (by simp) (λi hi=>?_);obtain rfl:i=1:=by simpa using hi);refine Qg rfl rfl (λK2 c=>?_);refine Qm (w1:=wd) 202 #[] (by go_simp;try rfl) ?_
 refine(Aih wd).mono ?_;rintro e wr ⟨M,D,rfl,g,hD⟩;refine⟨_,rfl,c _ _ ?_⟩;clear c K2;have d:=s.go d g.below;have o:=g.rb hD;have aa:=Lv o;clear o g hD;simp only[Act.put,Qa,Qb,Qc];refine⟨d,?_⟩;(refine tkH 2 (.agg (KZ p M)) rfl (Qd rfl (λW hW=>by(go_simp;try rfl))) ?_;simp only[Act.put,Qa,Qb,Qc])
 (refine wpAnyH_all (rs:=[4]) (by kernel_rfl) (by simp) (λi hi=>?_);obtain rfl:i=4:=by simpa using hi);refine Qg rfl rfl (λK2 c=>?_);refine Qm (w1:=wr) 203 #[.agg (KZ p M),.int .i64 (q:Int)] (by go_simp;try rfl) ?_
 refine(AlD p M k.out t.size t q (Nat.le_refl _) z.out wr (S1.out _ d) aa.out).mono ?_;rintro e w6 ⟨rfl,b6⟩;refine⟨_,rfl,c _ _ ?_⟩;clear c K2;have d:=s.go d b6;simp only[Act.put,Qa,Qb,Qc];refine⟨d,?_⟩;(refine tkH 5 (.int .i64 (ofT p.V t)) rfl (Qd rfl (λW hW=>by(go_simp))) ?_;simp only[Act.put,Qa,Qb,Qc]);refine wpAnyH_done (by kernel_rfl) ?_ _;go_wp2
 go_ret
 exact⟨rfl,S2.out _ d⟩
end Go.Proofs.YtgnmkiafeplbpaaGreatDoor
