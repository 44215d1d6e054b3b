/- Lemmas for RunnerKillsP. -/
import Derived.Test.YtkoikjnlpifbjaaGreatZk1
import Derived.Test.YtkoikjnlpifbjaaGreatZk5
import Derived.Shelf.Bits.Mul64
import Derived.Test.YtkoikjnlpifbjaaGreatRows
import Derived.WalkKit
import Derived.Laws.CopyOwn
import Derived.Deep.RegionLaw
set_option linter.unusedVariables false
set_option linter.unusedSimpArgs false
set_option maxRecDepth 100000
set_option maxHeartbeats 16000000
namespace Go.Proofs.YtkoikjnlpifbjaaGreat
open Go.RowKit Go.Deep
def JN (k:Int):Option (Int×List Int):=
 if k=1 then some (0,[])else if k=2 then some (1,[])else if k=5 then some (0,[0])else if k=6 then some (1,[1])else if k=18 then some (1,[1,1])else if k=19 then some (1,[1,1])
 else if k=23 then some (2,[1,2,2])else if k=24 then some (2,[1,2])else if k=25 then some (2,[0])else if k=26 then some (2,[])
 else if 7<=k/\k<=11 then some (0,[0,0])else if 12<=k/\k<=17 then some (1,[0,0])else none
def Ajr (k:Int):Option (Int×List Int):=if k=4 then some (0,[0])else if k=22 then some (2,[0,0])else none
inductive RuleR (W:World):Int->Value->Prop
 |plain (k is:Int) (A:Option Addr) (n cap:Nat) (want:List Int) (hc:JN k=some (is,want)) (hn:n=want.length) (hr:Rd W A (Qi want)):RuleR W k (.iface 228 (.agg #[.slice A n cap,.int .i64 is]))
 |scalar (k:Int) (b:Bool) (h:k=3/\b=false\/k=21/\b=true):RuleR W k (.iface 230 (.agg #[.bool b]))
 |array (k is:Int) (A:Option Addr) (n cap:Nat) (want:List Int) (hc:Ajr k=some (is,want)) (hn:n=want.length) (hr:Rd W A (Qi want)):RuleR W k (.iface 232 (.agg #[.slice A n cap,.int .i64 is]))
theorem RuleR.go{W W':World}{k:Int}{v:Value}(h:RuleR W k v)(b:Below W.heap.size W W'):RuleR W' k v:=by
 cases h with
 |plain is A n cap want hc hn hr=>exact .plain _ _ _ _ _ _ hc hn (hr.go b)
 |scalar b' h=>exact .scalar _ _ h
 |array is A n cap want hc hn hr=>exact .array _ _ _ _ _ _ hc hn (hr.go b)
theorem Rd.only_map{W W':World}{A:Option Addr}{xs:List Value}{M:Nat}{es:List (Int×Value)}(h:Rd W A xs)(hm:MapB W M es)(o:Only M W W'):Rd W' A xs:=λj u hj=>by
 obtain⟨g,e,i⟩:=h j u hj;refine⟨g,e,?_⟩
 have d:(g.add j).block≠M:=λk=>by
  obtain⟨arr,c,l,_⟩:=hm;simp[World.cell?,k,l]at i
 rw[<-i];simp only[World.cell?,o.block _ d]
theorem RuleR.only{W W':World}{k:Int}{v:Value}{M:Nat}{es:List (Int×Value)}(h:RuleR W k v)(hm:MapB W M es)(o:Only M W W'):RuleR W' k v:=by
 cases h with
 |plain is A n cap want hc hn hr=>exact .plain _ _ _ _ _ _ hc hn (hr.only_map hm o)
 |scalar b' h=>exact .scalar _ _ h
 |array is A n cap want hc hn hr=>exact .array _ _ _ _ _ _ hc hn (hr.only_map hm o)
structure RS (w W:World)(M:Nat)(D:List Int):Prop where
 below:Below w.heap.size w W
 lo:w.heap.size<=M
 map:∃es,MapB W M es/\es.map (·.1)=D/\∀p∈es,RuleR W p.1 p.2
theorem RS.go{w W W':World}{M:Nat}{D:List Int}(h:RS w W M D)(b:Below W.heap.size W W'):RS w W' M D:=by
 obtain⟨d,c,e,g⟩:=h.map;exact⟨h.below.trans (b.mono h.below.size),h.lo,d,c.below b c.lt,e,λp i=>(g p i).go b⟩
theorem RS.alloc{w W:World}{M:Nat}{D:List Int}(h:RS w W M D)(o:Obj):RS w (W.alloc o) M D:=h.go ((Below.refl _ _).alloc (Nat.le_refl _) o)
theorem Ud{k:Int}:∀{es:List (Int×Value)},k∉es.map (·.1)->JK k es=none
 |[],_=>rfl
 | (k',v)::es,h=>by
  rw[JK,if_neg (λe=>h (by simp[e]))]
  exact Ud (λhm=>h (by simp at hm|-;exact .inr hm))
theorem Aa3{k:Int}{v:Value}:∀{es:List (Int×Value)},JK k es=some v->(k,v)∈es
 |[],h=>by cases h
 | (k',v')::es,h=>by
  rw[JK]at h
  split at h
  ·rename_i e;injection h with h;subst e h;simp
  ·exact N9 _ (Aa3 h)
theorem Eo{k:Int}:∀{es:List (Int×Value)},k∈es.map (·.1)->∃v,JK k es=some v
 |[],h=>by simp at h
 | (k',v')::es,h=>by
  rw[JK]
  by_cases e:k=k'
  ·exact⟨v',if_pos e⟩
  ·rw[if_neg e]
   refine Eo ?_
   simp only[LP,Ls]at h
   rcases h with h|h
   ·exact absurd h e
   ·exact h
theorem KC{ops:Array Oper}{rest:List Oper}{o:Oper}{a:Act}{w W:World}{Q:Exit->Act->World->Prop}{M:Nat}{D:List Int}(hgd:o.guard=none)(m x y:Operand)(ho:o.op=.insert 170 m x y\/o.op=.mapUpdate 170 m x y)(hm:a.eval m=.map (some M))(k:Int)(v:Value)(hx:a.eval x=.int .i64 k)(hy:a.eval y=v)(hs:RS w W M D)(hn:k∉D)(hr:RuleR W k v)
 (h:∀W',RS w W' M (D++[k])->wpList Tryz.prog ops Q rest (a.put o.dst undef) W'):wpList Tryz.prog ops Q (o::rest) a W:=by
 obtain⟨l,d,g,i⟩:=hs.map;subst g;refine XH hgd m x y ho Tryz.underlying170 Tryz.underlying3 d hm k v hx hy (Ud hn) ?_;intro W' j e;refine h W' ⟨Qp hs.below e hs.lo,hs.lo,_,j,by simp,λp c=>?_⟩;rcases L2.1 c with c|c
 ·exact(i p c).only d e
 ·rw[Lv.1 c];exact hr.only d e
theorem Ahh (w:World):Calls Tryz.prog 104 #[] w λe w'=>∃M D,e=.returned (.map (some M))/\RS w w' M D/\∀k,k∈D<->(1<=k/\k<=26/\k≠20):=by
 have s:∀w:World,(Instr.makeMap 170 none).run Tryz.prog w=.ok (.map (some w.heap.size)) (w.alloc (.map #[] 0)):=λ_=>by kernel_rfl
 go_enter Tryz.func104,Tryz.ntmps104
 have r0:RS w (w.alloc (.map #[] 0)) w.heap.size []:=⟨(Below.refl _ _).alloc (Nat.le_refl _) _,Nat.le_refl _,[],MapB.new w,rfl,λp hp=>by simp at hp⟩;obtain⟨M,n⟩:∃M,M=w.heap.size:=⟨_,rfl⟩;go_wp2_with (refine KC rfl _ _ _ (.inl rfl) rfl _ _ rfl rfl (by first|assumption|exact RS.alloc (by assumption) _) (by decide) (by first|exact RuleR.scalar _ _ (by decide)|exact RuleR.plain _ _ _ _ _ [] rfl rfl (Rd.nil _ _)|exact RuleR.plain _ _ _ _ _ [0] rfl rfl (Jl _ (Qi [0]) _)|exact RuleR.plain _ _ _ _ _ [1] rfl rfl (Jl _ (Qi [1]) _)|exact RuleR.plain _ _ _ _ _ [1,1] rfl rfl (Jl _ (Qi [1,1]) _)|exact RuleR.plain _ _ _ _ _ [1,2] rfl rfl (Jl _ (Qi [1,2]) _)|exact RuleR.plain _ _ _ _ _ [1,2,2] rfl rfl (Jl _ (Qi [1,2,2]) _)|exact RuleR.array _ _ _ _ _ [0] rfl rfl (Jl _ (Qi [0]) _)|exact RuleR.array _ _ _ _ _ [0,0] rfl rfl (Jl _ (Qi [0,0]) _)) ?_;intro v t)
 have c:RS w v M ([1,2,3,21,4,22,5,6,18,19,23,24,25,26]):=by rw[n];exact t
 have HM:=Lh n;rw[<-n];clear t r0 s n;go_loopw [2] (λi wr=>∃(k:Nat) (D:List Int),i=.int .i64 (k:Int)/\7<=k/\k<=18/\RS w wr M D/\Hid (∀j:Int,j∈D<->(j∈[1,2,3,21,4,22,5,6,18,19,23,24,25,26]\/(7<=j/\j<(k:Int))))) (λi _=>18-(intOf i).toNat)
 case atStart=>exact⟨7,_,rfl,by omega,by omega,c,Lh (λj=>⟨.inl,λh=>h.elim id (λh=>by omega)⟩)⟩
 case round=>
  clear c;obtain⟨k,D,rfl,h7,z,c,m⟩:=hrel;by_cases aa:k<18
  ·have g:(k:Int)∉D:=λh=>by
     rcases (m.out (k:Int)).1 h with h|h
     ·simp only[Ls,Lw,or_false]at h;omega
     ·omega
   have d:=Lh g;clear g;by_cases y:k<12
   ·have l:JN (k:Int)=some (0,[0,0]):=by
      unfold JN
      repeat(first|rw[if_neg (show ¬_ by omega)]|rw[if_pos (show _ by omega)])
    have o:=Lh l;clear l;go_wp2_with (refine KC rfl _ _ _ (.inr rfl) rfl _ _ rfl rfl (RS.alloc c _) d.out (RuleR.plain _ _ _ _ _ [0,0] o.out rfl (Jl wr (Qi [0,0]) _)) ?_;intro x q)
    go_roundw
    case rel=>
     refine⟨k+1,_,by go_num,by omega,by omega,q,Lh (λj=>?_)⟩;rw[L2,m.out j,Lv];constructor
     ·rintro((h|h)|h)
      ·exact .inl h
      ·exact .inr (by omega)
      ·exact .inr (by omega)
     ·rintro(h|h)
      ·exact .inl (.inl h)
      ·by_cases e:j=(k:Int)
       ·exact .inr e
       ·exact .inl (.inr (by omega))
    case measure=>simp[intOf];omega
   ·have u:12<=k:=by omega
    have l:JN (k:Int)=some (1,[0,0]):=by
     unfold JN
     repeat(first|rw[if_neg (show ¬_ by omega)]|rw[if_pos (show _ by omega)])
    have o:=Lh l;clear l;go_wp2_with (refine KC rfl _ _ _ (.inr rfl) rfl _ _ rfl rfl (RS.alloc c _) d.out (RuleR.plain _ _ _ _ _ [0,0] o.out rfl (Jl wr (Qi [0,0]) _)) ?_;intro x q)
    go_roundw
    case rel=>
     refine⟨k+1,_,by go_num,by omega,by omega,q,Lh (λj=>?_)⟩;rw[L2,m.out j,Lv];constructor
     ·rintro((h|h)|h)
      ·exact .inl h
      ·exact .inr (by omega)
      ·exact .inr (by omega)
     ·rintro(h|h)
      ·exact .inl (.inl h)
      ·by_cases e:j=(k:Int)
       ·exact .inr e
       ·exact .inl (.inr (by omega))
    case measure=>simp[intOf];omega
  ·obtain rfl:k=18:=by omega
   go_wp2
   go_ret
   refine⟨M,D,rfl,c,λj=>?_⟩;rw[m.out j];simp only[Ls,Lw,or_false];omega
theorem AaQ (A:Option Addr)(n cap:Nat)(is:Int)(p:PgV)(x:Nd)(w:World):Calls Tryz.prog 274 #[.agg #[.slice A n cap,.int .i64 is],.agg p.cells,.agg x.cells.toArray] w λe w'=>e=.returned (.int .i64 is)/\Below w.heap.size w w':=by
 go_enter Tryz.func274,Tryz.ntmps274
 go_wp2_with (refine Qq _ _ rfl ?_)
 refine Stop.to ?_;refine Qe rfl 228 _ rfl #[.slice A n cap,.int .i64 is] rfl ?_;intro R z o c m;go_wp2_with (refine Qq _ _ rfl ?_)
 refine Stop.to ?_;refine Qe rfl 25 _ rfl p.cells rfl ?_;intro G y g s d;go_wp2_with (refine Qq _ _ rfl ?_)
 refine Stop.to ?_;refine Qe rfl 65 _ rfl x.cells.toArray rfl ?_;intro X Xw j t h;have q:=(c.below d (Lg c.lt g)).below h (Lg (c.below d (Lg c.lt g)).lt j);have k:=(Below.refl w.heap.size w).trans (m.mono o);have l:=k.trans ((d.mono g).mono k.size);have u:=l.trans ((h.mono j).mono l.size);have c1:=q.cellv (i:=1) (v:=.int .i64 is) rfl;clear q c s t m d h k l o g j;go_wp2
 go_ret
 exact⟨rfl,u⟩
def XG (V:List Int)(n:Int)(b:Bool):Int:=if Ky V n then(if b then 2 else(V[n.toNat]?).getD 0)else-1
theorem Aaq (b:Bool)(p:PgV)(t n:Int)(w:World)(hok:p.ok w)(hn:0<=n):Calls Tryz.prog 275 #[.agg #[.bool b],.agg p.cells,.agg (Nd.cells ⟨t,n⟩).toArray] w λe w'=>e=.returned (.int .i64 (XG p.V n b))/\Below w.heap.size w w':=by
 have l:=Lh hok;clear hok;obtain⟨k,rfl⟩:∃k:Nat,n=(k:Int):=⟨n.toNat,by omega⟩;obtain⟨c,va,d,V,ba,g,h⟩:=p;dsimp only;rw[show(PgV.mk c va d V ba g h).cells=#[.int .i64 c,.slice va V.length d,.slice ba h.length g]from rfl,show(Nd.cells ⟨t,(k:Int)⟩).toArray=#[.int .i64 t,.int .i64 (k:Int)]from rfl];go_enter Tryz.func275,Tryz.ntmps275
 go_wp2_with (refine Qq _ _ rfl ?_)
 refine Stop.to ?_;refine Qe rfl 230 _ rfl #[.bool b] rfl ?_;intro R Rw Rh o Rb;go_wp2_with (refine Qq _ _ rfl ?_)
 refine Stop.to ?_;refine Qe rfl 25 _ rfl #[.int .i64 c,.slice va V.length d,.slice ba h.length g] rfl ?_;intro G Gw x Gr u;go_wp2_with (refine Qq _ _ rfl ?_)
 refine Stop.to ?_;refine Qe rfl 65 _ rfl #[.int .i64 t,.int .i64 (k:Int)] rfl ?_;intro X Xw z Xr y;have rG:=Gr.below y (Lg Gr.lt z);have rR:=(o.below u (Lg o.lt x)).below y (Lg (o.below u (Lg o.lt x)).lt z);have b1:=(Below.refl w.heap.size w).trans (Rb.mono Rh);have b2:=b1.trans ((u.mono x).mono b1.size);have b3:=b2.trans ((y.mono z).mono b2.size);have c0:=rR.cellv (i:=0) (v:=.bool b) rfl;have c1:=rG.cellv (i:=1) (v:=.slice va V.length d) rfl;have c2:=Xr.cellv (i:=1) (v:=.int .i64 (k:Int)) rfl;have m:=Lh (l.out.go b3).vrd;dsimp only at m;clear rR rG o Gr Xr Rb u y b1 b2 Rh x z l;by_cases hk:k<V.length;rotate_left
 ·have s:Hid (XG V (k:Int) b= -1):=by show _=_;unfold XG Ky;rw[Ln,Nh (by omega)];rfl
  have ab:(V.length:Int)<=(k:Int):=by omega
  clear hk;go_wp2
  go_ret
  exact⟨QS s.out,b3⟩
 obtain⟨v,q⟩:∃v,V[k]? =some v:=⟨_,Lb hk⟩;obtain⟨ad,aa,hc⟩:=Zg m.out q;have ab:(k:Int)<(V.length:Int):=by omega
 subst aa;by_cases j:v=0\/v=1
 ·have s:Hid (XG V (k:Int) b=if b then 2 else v):=by
    show _=_;unfold XG Ky;rw[Ln,q];simp only;rw[if_pos (by simpa using j)];rfl
  clear q hk;rcases j with rfl|rfl
  all_goals
   cases b
   all_goals
    go_wp2
    go_ret
    exact⟨QS s.out,b3⟩
 ·have s:Hid (XG V (k:Int) b= -1):=by
    show _=_;unfold XG Ky;rw[Ln,q];simp only;rw[if_neg (by simpa using j)]
  have e0:(v != 0)=true:=by simp;omega
  have e1:(v != 1)=true:=by simp;omega
  clear q hk j;go_wp2
  go_ret
  exact⟨QS s.out,b3⟩
def Yv (V:List Int)(n is:Int):Int:=if Yu V n then is else-1
theorem AaJ (A:Option Addr)(m cap:Nat)(is:Int)(p:PgV)(t n:Int)(w:World)(hok:p.ok w)(hn:0<=n):Calls Tryz.prog 276 #[.agg #[.slice A m cap,.int .i64 is],.agg p.cells,.agg (Nd.cells ⟨t,n⟩).toArray] w λe w'=>e=.returned (.int .i64 (Yv p.V n is))/\Below w.heap.size w w':=by
 have l:=Lh hok;clear hok;obtain⟨k,rfl⟩:∃k:Nat,n=(k:Int):=⟨n.toNat,by omega⟩;obtain⟨c,va,d,V,ba,h,j⟩:=p;dsimp only;rw[show(PgV.mk c va d V ba h j).cells=#[.int .i64 c,.slice va V.length d,.slice ba j.length h]from rfl,show(Nd.cells ⟨t,(k:Int)⟩).toArray=#[.int .i64 t,.int .i64 (k:Int)]from rfl];go_enter Tryz.func276,Tryz.ntmps276
 go_wp2_with (refine Qq _ _ rfl ?_)
 refine Stop.to ?_;refine Qe rfl 232 _ rfl #[.slice A m cap,.int .i64 is] rfl ?_;intro R Rw Rh u Rb;go_wp2_with (refine Qq _ _ rfl ?_)
 refine Stop.to ?_;refine Qe rfl 25 _ rfl #[.int .i64 c,.slice va V.length d,.slice ba j.length h] rfl ?_;intro G Gw z Gr y;go_wp2_with (refine Qq _ _ rfl ?_)
 refine Stop.to ?_;refine Qe rfl 65 _ rfl #[.int .i64 t,.int .i64 (k:Int)] rfl ?_;intro X Xw Xh Xr Xb;have rG:=Gr.below Xb (Lg Gr.lt Xh);have rR:=(u.below y (Lg u.lt z)).below Xb (Lg (u.below y (Lg u.lt z)).lt Xh);have b1:=(Below.refl w.heap.size w).trans (Rb.mono Rh);have b2:=b1.trans ((y.mono z).mono b1.size);have b3:=b2.trans ((Xb.mono Xh).mono b2.size);have c0:=rR.cellv (i:=1) (v:=.int .i64 is) rfl;have c1:=rG.cellv (i:=1) (v:=.slice va V.length d) rfl;have c2:=Xr.cellv (i:=1) (v:=.int .i64 (k:Int)) rfl;have s:=Lh (l.out.go b3).vrd;have q:=Lh l.out.vin;dsimp only at s q;clear rR rG u Gr Xr Rb y Xb b1 b2 Rh z Xh l;by_cases hk:k<V.length;rotate_left
 ·have x:Hid (Yv V (k:Int) is= -1):=by show _=_;unfold Yv Yu;rw[Ln,Nh (by omega)];rfl
  have ab:(V.length:Int)<=(k:Int):=by omega
  clear hk;go_wp2
  go_ret
  exact⟨QS x.out,b3⟩
 obtain⟨v,o⟩:∃v,V[k]? =some v:=⟨_,Lb hk⟩;obtain⟨ad,aa,hc⟩:=Zg s.out o;have Hi:=Lh (q.out v (Lf o));have ab:(k:Int)<(V.length:Int):=by omega
 subst aa;by_cases g:QC v=0
 ·have x:Hid (Yv V (k:Int) is= -1):=by
    show _=_;unfold Yv Yu;rw[Ln,o];simp only;rw[if_neg (by simpa using g)]
  have e0:(QC v==0)=true:=by simpa using g
  clear o hk g;go_wp2_with (go_at_call 97;refine(KS v _ Hi.out).mono ?_;rintro e w' ⟨rfl,rfl⟩)
  go_ret
  exact⟨QS x.out,b3⟩
 ·have x:Hid (Yv V (k:Int) is=is):=by
    show _=_;unfold Yv Yu;rw[Ln,o];simp only;rw[if_pos (by simpa using g)]
  have e0:(QC v==0)=false:=by simpa using g
  clear o hk g;go_wp2_with (go_at_call 97;refine(KS v _ Hi.out).mono ?_;rintro e w' ⟨rfl,rfl⟩)
  go_ret
  exact⟨QS x.out,b3⟩
end Go.Proofs.YtkoikjnlpifbjaaGreat
namespace Go.Proofs.YtkoikjnlpifbjaaGreat
open Go.Shelf
def Adx:Go.Shelf.Ren:=⟨λ|212=>200|263=>220|264=>221|n=>n,λ|46=>251|51=>77|146=>304|53=>207|148=>306|n=>n,λ|n=>n⟩
theorem Aj1:Go.Proofs.Lays.n212 Tryz.prog Adx:={
 mixed:=by kernel_rfl
 f212:=Tryz.func200.trans (congrArg some (by kernel_rfl))
 f263:=Tryz.func220.trans (congrArg some (by kernel_rfl))
 f264:=Tryz.func221.trans (congrArg some (by kernel_rfl))
 t46:=Tryz.underlying251
 a46:=Tryz.isAgg251
 z46:=Tryz.sizeOf251
 v46:=Tryz.zeroValue251
 t51:=Tryz.underlying77
 a51:=Tryz.isAgg77
 z51:=Tryz.sizeOf77
 v51:=Tryz.zeroValue77
 t53:=Tryz.underlying207
 a53:=Tryz.isAgg207
 z53:=Tryz.sizeOf207
 v53:=Tryz.zeroValue207
 t146:=Tryz.underlying304
 a146:=Tryz.isAgg304
 z146:=Tryz.sizeOf304
 v146:=Tryz.zeroValue304
 t148:=Tryz.underlying306
 a148:=Tryz.isAgg306
 z148:=Tryz.sizeOf306
 v148:=Tryz.zeroValue306 }
open Go.RowKit Go.Lib in
theorem bits_Mul (x y:Nat)(hx:x<18446744073709551616)(hy:y<18446744073709551616)(w:World):
 Calls Tryz.prog 200 #[.int .u64 x,.int .u64 y] w λe w'=>e=.returned (.tuple #[.int .u64 ((x*y / 18446744073709551616:Nat):Int),.int .u64 ((x*y % 18446744073709551616:Nat):Int)])/\w'=w:=Any.bits_Mul Aj1 x y hx hy w
end Go.Proofs.YtkoikjnlpifbjaaGreat
namespace Go.Proofs.YtkoikjnlpifbjaaGreat
open Go.RowKit Go.Deep
theorem KH (z:Value)(n:Nat):madeCells #[z] n=(List.replicate n z).toArray:=by
 unfold madeCells;apply Array.ext
 ·simp
 ·intro i c d;simp[Nat.mod_one]
theorem AlF (a b:Nat):Nat.min a b<=a/\Nat.min a b<=b/\(Nat.min a b=a\/Nat.min a b=b):=by
 show min a b<=a/\min a b<=b/\(min a b=a\/min a b=b);omega
theorem JO{P:Program}{o:Oper}{w w1:World}{ρ:Operand->Value}{s x:Operand}{t t':TypeId}(ho:o.op=.call { callee:=.builtin .copy,args:=#[s,x],argTypes:=#[t,t'] }){v:Value}(hv:(Builtin.copy_ #[t,t'] o.type #[ρ s,ρ x]).run P w=.ok v w1):(execOp ρ o).run P w=.ok (.value v) w1:=by
 unfold execOp;simp only[ho,resolve,invoke,builtin,Sem.run_bind,Sem.run_pure,Result.andThen_ok,Nr,LP,Nv,hv]
theorem Aav (k n m:Nat)(x:Int)(hk:k+m<=n):splice (Qi (List.replicate k x++List.replicate (n-k) 0)) k (Qi (List.replicate m x))=Qi (List.replicate (k+m) x++List.replicate (n-(k+m)) 0):=by
 unfold splice Qi;simp only[LN,List.map_replicate,Nm];rw[No (by simp),L7 (by simp),List.drop_append,N2 (by simp),Nm,List.drop_replicate,Lm, <-Ly,List.replicate_append_replicate,show n-k-(k+m-k)=n-(k+m) by omega]
theorem Afo (g cap n:Nat)(x:Int)(w:World)(hr:Row w g 3 #[.int .i64 x])(hn:n<=1000):Calls Tryz.prog 174 #[.slice (some ⟨g,0,none⟩) 1 cap,.int .i64 (n:Int)] w λe w'=>IntsR (List.replicate n x) w w' e:=by
 have ab:∀W,Calls Tryz.prog 200 #[.int .u64 1,.int .u64 (n:Int)] W λe w'=>e=.returned (.tuple #[.int .u64 0,.int .u64 (n:Int)])/\w'=W:=λW=>by
  have:=bits_Mul 1 n (by omega) (by omega) W;rw[Nat.one_mul,Nat.div_eq_of_lt (by omega),NC (by omega)]at this;exact this
 have u:=Lh ab;clear ab
 have an:∀W:World,(Instr.makeSlice 22 (.int .i64 (n:Int)) (.int .i64 (n:Int))).run Tryz.prog W=.ok (.slice (some ⟨W.heap.size,0,none⟩) n n) (W.alloc (.cells (Qi (List.replicate n 0)).toArray 3)):=λW=>by
  have:=run_make_row' (P:=Tryz.prog) (w:=W) 22 3 (.int .i64 0) 8 Tryz.underlying22 Jc rfl .i64 .i64 n (by omega) (by omega);rw[show madeCells #[Value.int .i64 0] n=(Qi (List.replicate n 0)).toArray from by rw[KH];simp[Qi]]at this;exact this
 go_enter Tryz.func174,Tryz.ntmps174
 have ap:decide ((n:Int)<0)=false:=by simp
 have al:decide (9223372036854775807<(n:Int))=false:=by simp;omega
 go_wp2_with fail
 refine(u.out w).mono ?_;rintro e w1 ⟨rfl,hw⟩;subst hw;clear u;have d:=Aav 0 n (Nat.min 1 n) x (by rw[LG];exact Nat.min_le_right _ _);rw[LG,List.replicate_zero,Lm,Nat.sub_zero]at d;have l:=Lh d;clear d;have rn:=Row.new w1 3 (Qi (List.replicate n 0)).toArray;have ak:=hr.alloc (.cells (Qi (List.replicate n 0)).toArray 3)
 have ag:∀(j:Nat) (v:Value),(Qi (List.replicate (Nat.min 1 n) x))[j]? =some v->(w1.alloc (.cells (Qi (List.replicate n 0)).toArray 3)).cell? ((⟨g,0,none⟩:Addr).add j)=some v:=
  ak.from_ 0 (cs:=Qi (List.replicate (Nat.min 1 n) x)) (λj v hj=>by
   have c:=(La.1 hj).1
   have h1:(Qi (List.replicate (Nat.min 1 n) x)).length<=1:=by simp[Qi];exact Nat.min_le_left _ _
   obtain rfl:j=0:=by omega
   rw[<-hj]
   simp only[Qi,List.map_replicate,NJ]
   rw[if_pos (by simpa[Qi]using c)];rfl)
 have ad:=Lh ag;have Rn:=Lh rn;have p:(Qi (List.replicate (Nat.min 1 n) x)).length=Nat.min 1 n:=by simp[Qi]
 have q:=Lh p;clear rn ak hr ag p;go_wp2_with (refine wpList_copy_splice rfl (.tmp 31) (.tmp 32) 22 22 rfl 3 Tryz.underlying22 rfl (some ⟨w1.heap.size,0,none⟩) (some ⟨g,0,none⟩) n n 1 cap rfl rfl w1.heap.size 0 (Qi (List.replicate n 0)) 3 Rn.out (Qi (List.replicate (Nat.min 1 n) x)) q.out (λ_=>⟨rfl,_,rfl,ad.out⟩) (by rw[q.out];simp[Qi];exact Nat.min_le_right _ _) (Jn _) w1.heap.size w1 ((Below.refl _ _).alloc (Nat.le_refl _) _) (Nat.le_refl _) ?_;intro w2 h2 b2)
 have r2:Row w2 w1.heap.size 3 (Qi (List.replicate (Nat.min 1 n) x++List.replicate (n-Nat.min 1 n) 0)).toArray:=by rw[<-l.out];exact h2.out
 obtain⟨G,hG⟩:∃G,G=w1.heap.size:=⟨_,rfl⟩;rw[<-hG]at r2|-;obtain⟨k0,s⟩:∃k0,k0=Nat.min 1 n:=⟨_,rfl⟩;rw[q.out, <-s];rw[<-s]at r2;have o:k0<=n/\(k0=0->n=0):=by have:=AlF 1 n;rw[<-s]at this;omega
 have HG:=Lh hG;clear hG s l ad Rn q h2 an;go_wp2
 go_loopw [8] (λi wr=>∃k:Nat,i=.int .i64 (k:Int)/\k<=n/\(k=0->n=0)/\Row wr G 3 (Qi (List.replicate k x++List.replicate (n-k) 0)).toArray/\Below w1.heap.size w1 wr) (λi _=>n-(intOf i).toNat)
 case atStart=>exact⟨k0,rfl,o.1,o.2,r2,b2⟩
 case round=>
  clear r2 b2 w2;obtain⟨k,rfl,av,aa,hr,hb⟩:=hrel;by_cases c:k<n
  ·have aq:(k:Int)<(n:Int):=by omega
   have am:0<k:=by
    rcases Nat.eq_zero_or_pos k with h|h
    ·have:=aa h;omega
    ·exact h
   obtain⟨m,hm⟩:∃m,m=Nat.min k (n-k):=⟨_,rfl⟩;have aj:=AlF k (n-k);rw[<-hm]at aj;obtain⟨ar,aw,ao⟩:=aj;have ax:0<m:=by omega
   clear ao;have Hm:=Lh hm;clear hm aa c o;have au:(n:Int)-(k:Int)=((n-k:Nat):Int):=by omega
   have ah:∀(j:Nat) (v:Value),(Qi (List.replicate m x))[j]? =some v->wr.drew.cell? ((⟨G,0,none⟩:Addr).add j)=some v:=
    hr.drew.from_ 0 (cs:=Qi (List.replicate m x)) (λj v hj=>by
     have c:j<m:=by have:=(La.1 hj).1;simpa[Qi]using this
     rw[<-hj]
     simp only[Qi,List.map_replicate,NJ,LN,LG,N7]
     rw[if_pos c,L3 (by simp;omega),NJ,if_pos (by omega)])
   have ac:=Lh ah;have Hr:=Lh hr.drew;have Hb:=Lh (Z0 hb 1);have d:=Aav k n m x (by omega);have l:=Lh d;have ae:Hid ((Qi (List.replicate m x)).length=Nat.min k (n-k)):=by show _=_;rw[<-Hm.out];simp[Qi]
   have z:k+(Qi (List.replicate m x)).length<=(Qi (List.replicate k x++List.replicate (n-k) 0)).length:=by simp[Qi];omega
   have t:=Lh z;clear ah hr hb d z;go_wp2_with fail
   refine wp_region_held (S:=λ_=>True) (by kernel_rfl) ?_;simp only[Lk,Lc,Lo,Nat.reduceAdd,Li,Lj,Lp,Lm,Ll];show wpAnyH _ _ _ _ _ _ _ _ wr.drew;have hS:(λ_:World=>True) wr.drew:=trivial;have Hb:Hid (Below w1.heap.size w1 wr.drew):=Hb.out;generalize wr.drew=wd at ac Hr hS Hb|-;(refine tkH 0 (.int .i64 (k:Int)) rfl (Qd rfl (λW y=>by(go_simp))) ?_;simp only[Act.put,Qa,Qb,Qc]);(refine tkH 1 (.slice (some ⟨G,0,none⟩) n n) rfl (Qd rfl (λW y=>by(go_simp))) ?_;simp only[Act.put,Qa,Qb,Qc]);(refine tkH 2 (.int .i64 (k:Int)) rfl (Qd rfl (λW y=>by(go_simp))) ?_;simp only[Act.put,Qa,Qb,Qc]);(refine tkH 4 (.slice (some ⟨G,0,none⟩) n n) rfl (Qd rfl (λW y=>by(go_simp))) ?_;simp only[Act.put,Qa,Qb,Qc]);(refine tkH 5 (.int .i64 (k:Int)) rfl (Qd rfl (λW y=>by(go_simp))) ?_;simp only[Act.put,Qa,Qb,Qc]);(refine tkH 3 (.slice (some ⟨G,k,none⟩) (n-k) (n-k)) rfl (Qd rfl (λW y=>by(go_simp;omega))) ?_;simp only[Act.put,Qa,Qb,Qc]);(refine tkH 6 (.slice (some ⟨G,0,none⟩) k n) rfl (Qd rfl (λW y=>by(go_simp))) ?_;simp only[Act.put,Qa,Qb,Qc]);(refine wpAnyH_all (rs:=[7]) (by kernel_rfl) (by simp) (λi hi=>?_);obtain rfl:i=7:=by simpa using hi);refine Qf rfl rfl (λK2 af=>?_);refine Qn (goInt (Qi (List.replicate m x)).length) (w1:=_) (by exact JO rfl (run_copy_row (P:=Tryz.prog) wd 22 22 _ 3 G k (n-k) (n-k) ⟨G,0,none⟩ k n _ 3 (Qi (List.replicate m x)) Tryz.underlying22 rfl Hr.out ae.out ac.out (by simpa using t.out) (Jn _))) ?_;rw[show goInt (Qi (List.replicate m x)).length=.int .i64 (m:Int) by simp[goInt,Qi]]
   have r3:Row (wd.setRow G ((Qi (List.replicate k x++List.replicate (n-k) 0)).toArray.toList.take k++Qi (List.replicate m x)++(Qi (List.replicate k x++List.replicate (n-k) 0)).toArray.toList.drop (k+(Qi (List.replicate m x)).length)).toArray) G 3 (Qi (List.replicate (k+m) x++List.replicate (n-(k+m)) 0)).toArray:=by
    rw[<-l.out,splice, <-Ly];exact Hr.out.setRow _
   have b3:=KG (g:=G) Hb.out (LD HG.out.symm) ((Qi (List.replicate k x++List.replicate (n-k) 0)).toArray.toList.take k++Qi (List.replicate m x)++(Qi (List.replicate k x++List.replicate (n-k) 0)).toArray.toList.drop (k+(Qi (List.replicate m x)).length)).toArray;refine af _ _ ?_;clear af K2;generalize wd.setRow G _=we at r3 b3|-;simp only[Act.put,Qa,Qb,Qc];refine⟨trivial,?_⟩;have ai:IntKind.i64.wrap ((k:Int)+(m:Int))=((k+m:Nat):Int):=by rw[IntWalk.i64_in _ (by omega)];omega
   (refine tkH 8 (.int .i64 ((k+m:Nat):Int)) rfl (Qd rfl (λW y=>by(go_simp;try exact ai))) ?_;simp only[Act.put,Qa,Qb,Qc])
   (refine tkH 9 (.int .i64 ((k+m:Nat):Int)) rfl (Qd rfl (λW y=>by(go_simp))) ?_;simp only[Act.put,Qa,Qb,Qc]);refine wpAnyH_done (by kernel_rfl) ?_ _;have R3:=Lh r3;have B3:=Lh b3;clear r3 b3 ai Hr ac Hb l ae t;go_wp2
   go_roundw
   case rel=>exact⟨k+m,rfl,by omega,by omega,R3.out,B3.out⟩
   case measure=>simp[intOf];omega
  ·obtain rfl:n=k:=by omega
   have Hr:=Lh hr;clear c hr;go_wp2
   go_ret
   refine⟨_,rfl,?_,hb⟩;have h1:=Hr.out;rw[N3,List.replicate_zero,LR]at h1;rw[Nm];exact⟨by simp[Qi],.inr ⟨G,n,_,rfl,by have:=HG.out;omega,h1,Nat.le_refl _,by unfold maxLen;omega,by simp[Qi],by simp[Qi]⟩⟩
section
variable {A:Option Addr} {n cap:Nat} {is:Int} {b:Bool} {w:World}
theorem AlP:(Instr.typeAssert (.iface 228 (.agg #[.slice A n cap,.int .i64 is])) 234 228 true).run Tryz.prog w=.ok (.tuple #[.agg #[.slice A n cap,.int .i64 is],.bool true]) w:=by kernel_rfl
theorem AlL:(Instr.typeAssert (.iface 232 (.agg #[.slice A n cap,.int .i64 is])) 234 228 true).run Tryz.prog w=.ok (.tuple #[.agg #[.slice none 0 0,.int .i64 0],.bool false]) w:=by kernel_rfl
theorem AlK:(Instr.typeAssert (.iface 232 (.agg #[.slice A n cap,.int .i64 is])) 234 232 true).run Tryz.prog w=.ok (.tuple #[.agg #[.slice A n cap,.int .i64 is],.bool true]) w:=by kernel_rfl
theorem AlR:(Instr.typeAssert (.iface 230 (.agg #[.bool b])) 234 228 true).run Tryz.prog w=.ok (.tuple #[.agg #[.slice none 0 0,.int .i64 0],.bool false]) w:=by kernel_rfl
theorem AlQ:(Instr.typeAssert (.iface 230 (.agg #[.bool b])) 234 232 true).run Tryz.prog w=.ok (.tuple #[.agg #[.slice none 0 0,.int .i64 0],.bool false]) w:=by kernel_rfl
theorem AlS:(Instr.typeAssert (.iface 230 (.agg #[.bool b])) 234 230 true).run Tryz.prog w=.ok (.tuple #[.agg #[.bool b],.bool true]) w:=by kernel_rfl
theorem AlN:(Instr.typeAssert .nilIface 234 228 true).run Tryz.prog w=.ok (.tuple #[.agg #[.slice none 0 0,.int .i64 0],.bool false]) w:=by kernel_rfl
theorem AlM:(Instr.typeAssert .nilIface 234 232 true).run Tryz.prog w=.ok (.tuple #[.agg #[.slice none 0 0,.int .i64 0],.bool false]) w:=by kernel_rfl
theorem AlO:(Instr.typeAssert .nilIface 234 230 true).run Tryz.prog w=.ok (.tuple #[.agg #[.bool false],.bool false]) w:=by kernel_rfl
theorem AfH:(zeroValue 228).run Tryz.prog w=.ok (.agg #[.slice none 0 0,.int .i64 0]) w:=by kernel_rfl
theorem Aep:(zeroValue 232).run Tryz.prog w=.ok (.agg #[.slice none 0 0,.int .i64 0]) w:=by kernel_rfl
theorem AcF:(zeroValue 230).run Tryz.prog w=.ok (.agg #[.bool false]) w:=by kernel_rfl
end
theorem AcL (A:Option Addr)(n cap:Nat)(is:Int)(p:PgV)(x:Nd)(m:Int)(w:World):Calls Tryz.prog 139 #[.agg p.cells,.agg x.cells.toArray,.iface 228 (.agg #[.slice A n cap,.int .i64 is]),.int .i64 m] w λe w'=>e=.returned (.slice A n cap)/\Below w.heap.size w w':=by
 have t1:=λw=>AlP (A:=A) (n:=n) (cap:=cap) (is:=is) (w:=w)
 go_enter Tryz.func139,Tryz.ntmps139
 go_wp2_with (refine Qq _ _ rfl ?_)
 refine Stop.to ?_;refine Qe rfl 25 _ rfl p.cells rfl ?_;intro G Gw j y h;go_wp2_with (refine Qq _ _ rfl ?_)
 refine Stop.to ?_;refine Qe rfl 65 _ rfl x.cells.toArray rfl ?_;intro X Xw u z t;have g:=(Below.refl w.heap.size w).trans (h.mono j);have c:=g.trans ((t.mono u).mono g.size);go_wp2_with (refine QH _ rfl ?_)
 refine Stop.to ?_;refine Qj rfl 228 rfl _ _ AfH rfl ?_;intro R d q s o;go_wp2_with (refine Qs _ _ _ rfl ?_)
 refine Stop.to ?_;refine Qk rfl 228 _ _ rfl R #[.slice A n cap,.int .i64 is] rfl rfl 228 _ s (by kernel_rfl) rfl (by simp[Value.oneCell']) ?_;intro RW l k;have RB:Below d.heap.size d d:=Below.refl _ _;have b3:=(c.trans ((o.mono q).mono c.size)).trans (k.below (by have:=c.size;omega));have c0:=l.cellv (i:=0) (v:=.slice A n cap) rfl;clear l k s o y h z t g c j u q RB;go_wp2
 go_ret
 exact⟨rfl,b3⟩
theorem AcK (A:Option Addr)(n cap:Nat)(is:Int)(p:PgV)(x:Nd)(m:Int)(w:World):Calls Tryz.prog 139 #[.agg p.cells,.agg x.cells.toArray,.iface 232 (.agg #[.slice A n cap,.int .i64 is]),.int .i64 m] w λe w'=>e=.returned (.slice A n cap)/\Below w.heap.size w w':=by
 have t1:=λw=>AlL (A:=A) (n:=n) (cap:=cap) (is:=is) (w:=w)
 have t2:=λw=>AlK (A:=A) (n:=n) (cap:=cap) (is:=is) (w:=w)
 go_enter Tryz.func139,Tryz.ntmps139
 go_wp2_with (refine Qq _ _ rfl ?_)
 refine Stop.to ?_;refine Qe rfl 25 _ rfl p.cells rfl ?_;intro G Gw j y h;go_wp2_with (refine Qq _ _ rfl ?_)
 refine Stop.to ?_;refine Qe rfl 65 _ rfl x.cells.toArray rfl ?_;intro X Xw u z t;have g:=(Below.refl w.heap.size w).trans (h.mono j);have c:=g.trans ((t.mono u).mono g.size);go_wp2_with (refine QH _ rfl ?_)
 refine Stop.to ?_;refine Qj rfl 232 rfl _ _ Aep rfl ?_;intro R d q s o;go_wp2_with (refine Qs _ _ _ rfl ?_)
 refine Stop.to ?_;refine Qk rfl 232 _ _ rfl R #[.slice A n cap,.int .i64 is] rfl rfl 232 _ s (by kernel_rfl) rfl (by simp[Value.oneCell']) ?_;intro RW l k;have RB:Below d.heap.size d d:=Below.refl _ _;have b3:=(c.trans ((o.mono q).mono c.size)).trans (k.below (by have:=c.size;omega));have c0:=l.cellv (i:=0) (v:=.slice A n cap) rfl;clear l k s o y h z t g c j u q RB;go_wp2
 go_ret
 exact⟨rfl,b3⟩
structure WantR (want:List Int)(w w':World)(e:Ending):Prop where
 ex:∃A cap,e=.returned (.slice A want.length cap)/\Rd w' A (Qi want)/\Below w.heap.size w w'
def KN (V:List Int)(n:Int)(b:Bool):List Int:=if b/\n.toNat<V.length then [(V[n.toNat]?).getD 0]else []
theorem AbO (b:Bool)(p:PgV)(t n:Int)(hn:0<=n)(m:Int)(w:World)(hok:p.ok w):Calls Tryz.prog 139 #[.agg p.cells,.agg (Nd.cells ⟨t,n⟩).toArray,.iface 230 (.agg #[.bool b]),.int .i64 m] w λe w'=>WantR (KN p.V n b) w w' e:=by
 have l:=Lh hok;clear hok;obtain⟨k,rfl⟩:∃k:Nat,n=(k:Int):=⟨n.toNat,by omega⟩;obtain⟨d,va,c,V,ba,g,h⟩:=p;dsimp only;have q:=Lh l.out.vlen;have s:=Lh l.out.vmax;dsimp only at q s;rw[show(PgV.mk d va c V ba g h).cells=#[.int .i64 d,.slice va V.length c,.slice ba h.length g]from rfl,show(Nd.cells ⟨t,(k:Int)⟩).toArray=#[.int .i64 t,.int .i64 (k:Int)]from rfl];have t1:=λw=>AlR (b:=b) (w:=w)
 have t2:=λw=>AlQ (b:=b) (w:=w)
 have t3:=λw=>AlS (b:=b) (w:=w)
 go_enter Tryz.func139,Tryz.ntmps139
 go_wp2_with (refine Qq _ _ rfl ?_)
 refine Stop.to ?_;refine Qe rfl 25 _ rfl #[.int .i64 d,.slice va V.length c,.slice ba h.length g] rfl ?_;intro G Gw Gh y Gb;go_wp2_with (refine Qq _ _ rfl ?_)
 refine Stop.to ?_;refine Qe rfl 65 _ rfl #[.int .i64 t,.int .i64 (k:Int)] rfl ?_;intro X Xw Xh Xr Xb;have b1:=(Below.refl w.heap.size w).trans (Gb.mono Gh);have b2:=b1.trans ((Xb.mono Xh).mono b1.size);go_wp2_with (refine QH _ rfl ?_)
 refine Stop.to ?_;refine Qj rfl 230 rfl _ _ AcF rfl ?_;intro R Rw Rh Rr Rb;go_wp2_with (refine Qs _ _ _ rfl ?_)
 refine Stop.to ?_;refine Qk rfl 230 _ _ rfl R #[.bool b] rfl rfl 230 _ Rr (by kernel_rfl) rfl (by simp[Value.oneCell']) ?_;intro RW RR RO;have RB:Below Rw.heap.size Rw Rw:=Below.refl _ _;have o:Below Xw.heap.size Xw RW:=(Rb.mono Rh).trans (RO.below Rh);have rG:=(y.below Xb (Lg y.lt Xh)).below o (by have:=(y.below Xb (Lg y.lt Xh)).lt;omega);have rX:=Xr.below o Xr.lt;have b3:=b2.trans (o.mono b2.size);have c0:=RR.cellv (i:=0) (v:=.bool b) rfl;have c1:=rG.cellv (i:=1) (v:=.slice va V.length c) rfl;have c2:=rX.cellv (i:=1) (v:=.int .i64 (k:Int)) rfl;have z:=Lh (l.out.go b3).vrd;dsimp only at z;clear RR RO Rr Rb y Gb Xr Xb b1 b2 Gh Xh Rh RB o rG rX l t1 t2 t3;cases b with
 |false=>
  have x:Hid (KN V (k:Int) false=[]):=by show _=_;unfold KN;rw[if_neg (by simp)]
  go_wp2
  go_ret
  exact⟨none,0,by rw[x.out];rfl,by rw[x.out];exact Rd.nil _ _,b3⟩
 |true=>
  by_cases hk:k<V.length
  ·obtain⟨v,hv⟩:∃v,V[k]? =some v:=⟨_,Lb hk⟩;obtain⟨ad,ab,hc⟩:=Zg z.out hv;have x:Hid (KN V (k:Int) true=[v]):=by show _=_;unfold KN;rw[Ln,if_pos ⟨rfl,hk⟩,hv];rfl
   have ae:(k:Int)<(V.length:Int):=by omega
   have af:=q.out;have aa:=s.out;unfold maxLen at aa;have ag:¬c=k:=by omega
   have Hc:=Lh hc;subst ab;clear hv hk hc;go_wp2
   go_ret
   refine⟨some (ad.add k),c-k,by rw[x.out];rfl,?_,b3⟩;rw[x.out];intro j u hj;refine⟨_,rfl,?_⟩
   have ac:j=0:=by
    have:=(La.1 hj).1;simp[Qi]at this;exact this
   subst ac;have hu:Value.int .i64 v=u:=by simpa[Qi]using hj
   rw[Xf,Nat.add_zero, <-hu];exact Hc.out
  ·have x:Hid (KN V (k:Int) true=[]):=by show _=_;unfold KN;rw[if_neg (by simp;omega)]
   have ae:(V.length:Int)<=(k:Int):=by omega
   clear hk;go_wp2
   go_ret
   exact⟨none,0,by rw[x.out];rfl,by rw[x.out];exact Rd.nil _ _,b3⟩
theorem Agp (p:PgV)(x:Nd)(m:Nat)(hm:m<=1000)(w:World):Calls Tryz.prog 139 #[.agg p.cells,.agg x.cells.toArray,.nilIface,.int .i64 (m:Int)] w λe w'=>WantR (List.replicate m 2) w w' e:=by
 have z:=λw=>AlN (w:=w)
 have t2:=λw=>AlM (w:=w)
 have t3:=λw=>AlO (w:=w)
 go_enter Tryz.func139,Tryz.ntmps139
 go_wp2_with (refine Qq _ _ rfl ?_)
 refine Stop.to ?_;refine Qe rfl 25 _ rfl p.cells rfl ?_;intro G u o t n;go_wp2_with (refine Qq _ _ rfl ?_)
 refine Stop.to ?_;refine Qe rfl 65 _ rfl x.cells.toArray rfl ?_;intro X j s y q;have k:=(Below.refl w.heap.size w).trans (n.mono o);have l:=k.trans ((q.mono s).mono k.size);go_wp2_with fail
 refine(Afo j.heap.size 1 m 2 _ (Row.new j 3 #[.int .i64 2]) hm).mono ?_;rintro e w4 ⟨v,rfl,c,h⟩;have h:=l.trans ((((Below.refl _ _).alloc (Nat.le_refl _) _).trans (h.mono (by simp))).mono l.size);obtain⟨A,i,rfl,d,_,_⟩:=Ab9 c;have g:=Lh d;clear c d;go_wp2
 go_ret
 refine⟨A,i,?_,g.out,h⟩;rw[Nm];rfl
end Go.Proofs.YtkoikjnlpifbjaaGreat
