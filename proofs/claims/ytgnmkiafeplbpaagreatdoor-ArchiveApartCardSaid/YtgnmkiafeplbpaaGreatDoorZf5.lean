/- Lemmas for ArAll. -/
import Derived.Test.YtgnmkiafeplbpaaGreatDoorZf1
import Derived.Test.YtgnmkiafeplbpaaGreatDoorZf3
import Derived.Test.YtgnmkiafeplbpaaGreatDoorZf4
import Derived.Shelf.Bits.Mul64
import Derived.Test.YtgnmkiafeplbpaaGreatDoorRows
import Derived.WalkKit
import Derived.Laws.CopyOwn
import Derived.Deep.RegionLaw
set_option linter.unusedVariables false
set_option linter.unusedSimpArgs false
set_option maxRecDepth 100000
set_option maxHeartbeats 16000000
namespace Go.Proofs.YtgnmkiafeplbpaaGreatDoor
open Go.RowKit Go.Deep
def JK (k:Int):Option (Int×List Int):=
 if k=1 then some (0,[])else if k=2 then some (1,[])else if k=5 then some (0,[0])else if k=6 then some (1,[1])else if k=18 then some (1,[1,1])else if k=19 then some (1,[1,1])
 else if k=23 then some (2,[1,2,2])else if k=24 then some (2,[1,2])else if k=25 then some (2,[0])else if k=26 then some (2,[])
 else if 7<=k/\k<=11 then some (0,[0,0])else if 12<=k/\k<=17 then some (1,[0,0])else none
def AkO (k:Int):Option (Int×List Int):=if k=4 then some (0,[0])else if k=22 then some (2,[0,0])else none
inductive RuleR (W:World):Int->Value->Prop
 |plain (k is:Int) (A:Option Addr) (n cap:Nat) (want:List Int) (hc:JK k=some (is,want)) (hn:n=want.length) (hr:Rd W A (Qj want)):RuleR W k (.iface 296 (.agg #[.slice A n cap,.int .i64 is]))
 |scalar (k:Int) (b:Bool) (h:k=3/\b=false\/k=21/\b=true):RuleR W k (.iface 298 (.agg #[.bool b]))
 |array (k is:Int) (A:Option Addr) (n cap:Nat) (want:List Int) (hc:AkO k=some (is,want)) (hn:n=want.length) (hr:Rd W A (Qj want)):RuleR W k (.iface 300 (.agg #[.slice A n cap,.int .i64 is]))
theorem RuleR.go{W W':World}{k:Int}{v:Value}(h:RuleR W k v)(b:Below W.heap.size W W'):RuleR W' k v:=by
 cases h with
 |plain is A n cap want hc hn hr=>exact .plain _ _ _ _ _ _ hc hn (hr.go b)
 |scalar b' h=>exact .scalar _ _ h
 |array is A n cap want hc hn hr=>exact .array _ _ _ _ _ _ hc hn (hr.go b)
theorem Rd.only_map{W W':World}{A:Option Addr}{xs:List Value}{M:Nat}{es:List (Int×Value)}(h:Rd W A xs)(hm:MapB W M es)(o:Only M W W'):Rd W' A xs:=λj u hj=>by
 obtain⟨c,e,d⟩:=h j u hj;refine⟨c,e,?_⟩
 have b:(c.add j).block≠M:=λg=>by
  obtain⟨arr,a,i,_⟩:=hm;simp[World.cell?,g,i]at d
 rw[<-d];simp only[World.cell?,o.block _ b]
theorem RuleR.only{W W':World}{k:Int}{v:Value}{M:Nat}{es:List (Int×Value)}(h:RuleR W k v)(hm:MapB W M es)(o:Only M W W'):RuleR W' k v:=by
 cases h with
 |plain is A n cap want hc hn hr=>exact .plain _ _ _ _ _ _ hc hn (hr.only_map hm o)
 |scalar b' h=>exact .scalar _ _ h
 |array is A n cap want hc hn hr=>exact .array _ _ _ _ _ _ hc hn (hr.only_map hm o)
structure RS (w W:World)(M:Nat)(D:List Int):Prop where
 below:Below w.heap.size w W
 lo:w.heap.size<=M
 map:∃es,MapB W M es/\es.map (·.1)=D/\∀p∈es,RuleR W p.1 p.2
theorem RS.go{w W W':World}{M:Nat}{D:List Int}(h:RS w W M D)(b:Below W.heap.size W W'):RS w W' M D:=by
 obtain⟨c,a,d,e⟩:=h.map;exact⟨h.below.trans (b.mono h.below.size),h.lo,c,a.below b a.lt,d,λp g=>(e p g).go b⟩
theorem RS.alloc{w W:World}{M:Nat}{D:List Int}(h:RS w W M D)(o:Obj):RS w (W.alloc o) M D:=h.go ((Below.refl _ _).alloc (Nat.le_refl _) o)
theorem Ux{k:Int}:∀{es:List (Int×Value)},k∉es.map (·.1)->KY k es=none
 |[],_=>rfl
 | (k',v)::es,h=>by
  rw[KY,if_neg (λe=>h (by simp[e]))]
  exact Ux (λhm=>h (by simp at hm|-;exact .inr hm))
theorem AbZ{k:Int}{v:Value}:∀{es:List (Int×Value)},KY k es=some v->(k,v)∈es
 |[],h=>by cases h
 | (k',v')::es,h=>by
  rw[KY]at h
  split at h
  ·rename_i e;injection h with h;subst e h;simp
  ·exact List.mem_cons_of_mem _ (AbZ h)
theorem Aah{k:Int}:∀{es:List (Int×Value)},k∈es.map (·.1)->∃v,KY k es=some v
 |[],h=>by simp at h
 | (k',v')::es,h=>by
  rw[KY]
  by_cases e:k=k'
  ·exact⟨v',if_pos e⟩
  ·rw[if_neg e]
   refine Aah ?_
   simp only[No,L6]at h
   rcases h with h|h
   ·exact absurd h e
   ·exact h
theorem Kv{ops:Array Oper}{rest:List Oper}{o:Oper}{a:Act}{w W:World}{Q:Exit->Act->World->Prop}{M:Nat}{D:List Int}(hgd:o.guard=none)(m x y:Operand)(ho:o.op=.insert 253 m x y\/o.op=.mapUpdate 253 m x y)(hm:a.eval m=.map (some M))(k:Int)(v:Value)(hx:a.eval x=.int .i64 k)(hy:a.eval y=v)(hs:RS w W M D)(hn:k∉D)(hr:RuleR W k v)
 (h:∀W',RS w W' M (D++[k])->wpList Tryz.prog ops Q rest (a.put o.dst undef) W'):wpList Tryz.prog ops Q (o::rest) a W:=by
 obtain⟨j,c,e,g⟩:=hs.map;subst e;refine VI hgd m x y ho Tryz.underlying253 Tryz.underlying3 c hm k v hx hy (Ux hn) ?_;intro W' i d;refine h W' ⟨Ql hs.below d hs.lo,hs.lo,_,i,by simp,λp b=>?_⟩;rcases LG.1 b with b|b
 ·exact(g p b).only c d
 ·rw[L8.1 b];exact hr.only c d
theorem Aih (w:World):Calls Tryz.prog 202 #[] w λe w'=>∃M D,e=.returned (.map (some M))/\RS w w' M D/\∀k,k∈D<->(1<=k/\k<=26/\k≠20):=by
 have o:∀w:World,(Instr.makeMap 253 none).run Tryz.prog w=.ok (.map (some w.heap.size)) (w.alloc (.map #[] 0)):=λ_=>by kernel_rfl
 go_enter Tryz.func202,Tryz.ntmps202
 have r0:RS w (w.alloc (.map #[] 0)) w.heap.size []:=⟨(Below.refl _ _).alloc (Nat.le_refl _) _,Nat.le_refl _,[],MapB.new w,rfl,λp z=>by simp at z⟩;obtain⟨M,l⟩:∃M,M=w.heap.size:=⟨_,rfl⟩;go_wp2_with (refine Kv rfl _ _ _ (.inl rfl) rfl _ _ rfl rfl (by first|assumption|exact RS.alloc (by assumption) _) (by decide) (by first|exact RuleR.scalar _ _ (by decide)|exact RuleR.plain _ _ _ _ _ [] rfl rfl (Rd.nil _ _)|exact RuleR.plain _ _ _ _ _ [0] rfl rfl (Z5 _ (Qj [0]) _)|exact RuleR.plain _ _ _ _ _ [1] rfl rfl (Z5 _ (Qj [1]) _)|exact RuleR.plain _ _ _ _ _ [1,1] rfl rfl (Z5 _ (Qj [1,1]) _)|exact RuleR.plain _ _ _ _ _ [1,2] rfl rfl (Z5 _ (Qj [1,2]) _)|exact RuleR.plain _ _ _ _ _ [1,2,2] rfl rfl (Z5 _ (Qj [1,2,2]) _)|exact RuleR.array _ _ _ _ _ [0] rfl rfl (Z5 _ (Qj [0]) _)|exact RuleR.array _ _ _ _ _ [0,0] rfl rfl (Z5 _ (Qj [0,0]) _)) ?_;intro t q)
 have a:RS w t M ([1,2,3,21,4,22,5,6,18,19,23,24,25,26]):=by rw[l];exact q
 have HM:=Lv l;rw[<-l];clear q r0 o l;go_loopw [2] (λi wr=>∃(k:Nat) (D:List Int),i=.int .i64 (k:Int)/\7<=k/\k<=18/\RS w wr M D/\Hid (∀j:Int,j∈D<->(j∈[1,2,3,21,4,22,5,6,18,19,23,24,25,26]\/(7<=j/\j<(k:Int))))) (λi _=>18-(intOf i).toNat)
 case atStart=>exact⟨7,_,rfl,by omega,by omega,a,Lv (λj=>⟨.inl,λh=>h.elim id (λh=>by omega)⟩)⟩
 case round=>
  clear a;obtain⟨k,D,rfl,h7,x,a,g⟩:=hrel;by_cases y:k<18
  ·have c:(k:Int)∉D:=λh=>by
     rcases (g.out (k:Int)).1 h with h|h
     ·simp only[L6,LJ,or_false]at h;omega
     ·omega
   have b:=Lv c;clear c;by_cases v:k<12
   ·have d:JK (k:Int)=some (0,[0,0]):=by
      unfold JK
      repeat(first|rw[if_neg (show ¬_ by omega)]|rw[if_pos (show _ by omega)])
    have m:=Lv d;clear d;go_wp2_with (refine Kv rfl _ _ _ (.inr rfl) rfl _ _ rfl rfl (RS.alloc a _) b.out (RuleR.plain _ _ _ _ _ [0,0] m.out rfl (Z5 wr (Qj [0,0]) _)) ?_;intro u n)
    go_roundw
    case rel=>
     refine⟨k+1,_,by go_num,by omega,by omega,n,Lv (λj=>?_)⟩;rw[LG,g.out j,L8];constructor
     ·rintro((h|h)|h)
      ·exact .inl h
      ·exact .inr (by omega)
      ·exact .inr (by omega)
     ·rintro(h|h)
      ·exact .inl (.inl h)
      ·by_cases e:j=(k:Int)
       ·exact .inr e
       ·exact .inl (.inr (by omega))
    case measure=>simp[intOf];omega
   ·have s:12<=k:=by omega
    have d:JK (k:Int)=some (1,[0,0]):=by
     unfold JK
     repeat(first|rw[if_neg (show ¬_ by omega)]|rw[if_pos (show _ by omega)])
    have m:=Lv d;clear d;go_wp2_with (refine Kv rfl _ _ _ (.inr rfl) rfl _ _ rfl rfl (RS.alloc a _) b.out (RuleR.plain _ _ _ _ _ [0,0] m.out rfl (Z5 wr (Qj [0,0]) _)) ?_;intro u n)
    go_roundw
    case rel=>
     refine⟨k+1,_,by go_num,by omega,by omega,n,Lv (λj=>?_)⟩;rw[LG,g.out j,L8];constructor
     ·rintro((h|h)|h)
      ·exact .inl h
      ·exact .inr (by omega)
      ·exact .inr (by omega)
     ·rintro(h|h)
      ·exact .inl (.inl h)
      ·by_cases e:j=(k:Int)
       ·exact .inr e
       ·exact .inl (.inr (by omega))
    case measure=>simp[intOf];omega
  ·obtain rfl:k=18:=by omega
   go_wp2
   go_ret
   refine⟨M,D,rfl,a,λj=>?_⟩;rw[g.out j];simp only[L6,LJ,or_false];omega
theorem AbN (A:Option Addr)(n cap:Nat)(is:Int)(p:PgV)(x:Nd)(w:World):Calls Tryz.prog 356 #[.agg #[.slice A n cap,.int .i64 is],.agg p.cells,.agg x.cells.toArray] w λe w'=>e=.returned (.int .i64 is)/\Below w.heap.size w w':=by
 go_enter Tryz.func356,Tryz.ntmps356
 go_wp2_with (refine Qx _ _ rfl ?_)
 refine Stop.to ?_;refine Qf rfl 296 _ rfl #[.slice A n cap,.int .i64 is] rfl ?_;intro R u l a k;go_wp2_with (refine Qx _ _ rfl ?_)
 refine Stop.to ?_;refine Qf rfl 25 _ rfl p.cells rfl ?_;intro G t c o b;go_wp2_with (refine Qx _ _ rfl ?_)
 refine Stop.to ?_;refine Qf rfl 52 _ rfl x.cells.toArray rfl ?_;intro X y g q d;have m:=(a.below b (Lg a.lt c)).below d (Lg (a.below b (Lg a.lt c)).lt g);have h:=(Below.refl w.heap.size w).trans (k.mono l);have j:=h.trans ((b.mono c).mono h.size);have s:=j.trans ((d.mono g).mono j.size);have z:=m.cellv (i:=1) (v:=.int .i64 is) rfl;clear m a o q k b d h j l c g;go_wp2
 go_ret
 exact⟨rfl,s⟩
def XF (V:List Int)(n:Int)(b:Bool):Int:=if Ks V n then(if b then 2 else(V[n.toNat]?).getD 0)else-1
theorem Abm (b:Bool)(p:PgV)(t n:Int)(w:World)(hok:p.ok w)(hn:0<=n):Calls Tryz.prog 357 #[.agg #[.bool b],.agg p.cells,.agg (Nd.cells ⟨t,n⟩).toArray] w λe w'=>e=.returned (.int .i64 (XF p.V n b))/\Below w.heap.size w w':=by
 have j:=Lv hok;clear hok;obtain⟨k,rfl⟩:∃k:Nat,n=(k:Int):=⟨n.toNat,by omega⟩;obtain⟨a,va,c,V,ba,d,g⟩:=p;dsimp only;rw[show(PgV.mk a va c V ba d g).cells=#[.int .i64 a,.slice va V.length c,.slice ba g.length d]from rfl,show(Nd.cells ⟨t,(k:Int)⟩).toArray=#[.int .i64 t,.int .i64 (k:Int)]from rfl];go_enter Tryz.func357,Tryz.ntmps357
 go_wp2_with (refine Qx _ _ rfl ?_)
 refine Stop.to ?_;refine Qf rfl 298 _ rfl #[.bool b] rfl ?_;intro R Rw Rh m Rb;go_wp2_with (refine Qx _ _ rfl ?_)
 refine Stop.to ?_;refine Qf rfl 25 _ rfl #[.int .i64 a,.slice va V.length c,.slice ba g.length d] rfl ?_;intro G Gw u Gr s;go_wp2_with (refine Qx _ _ rfl ?_)
 refine Stop.to ?_;refine Qf rfl 52 _ rfl #[.int .i64 t,.int .i64 (k:Int)] rfl ?_;intro X Xw y Xr x;have rG:=Gr.below x (Lg Gr.lt y);have rR:=(m.below s (Lg m.lt u)).below x (Lg (m.below s (Lg m.lt u)).lt y);have b1:=(Below.refl w.heap.size w).trans (Rb.mono Rh);have b2:=b1.trans ((s.mono u).mono b1.size);have z:=b2.trans ((x.mono y).mono b2.size);have c0:=rR.cellv (i:=0) (v:=.bool b) rfl;have c1:=rG.cellv (i:=1) (v:=.slice va V.length c) rfl;have c2:=Xr.cellv (i:=1) (v:=.int .i64 (k:Int)) rfl;have l:=Lv (j.out.go z).vrd;dsimp only at l;clear rR rG m Gr Xr Rb s x b1 b2 Rh u y j;by_cases hk:k<V.length;rotate_left
 ·have q:Hid (XF V (k:Int) b= -1):=by show _=_;unfold XF Ks;rw[L0,List.getElem?_eq_none (by omega)];rfl
  have ab:(V.length:Int)<=(k:Int):=by omega
  clear hk;go_wp2
  go_ret
  exact⟨Zp q.out,z⟩
 obtain⟨v,o⟩:∃v,V[k]? =some v:=⟨_,Ld hk⟩;obtain⟨ad,aa,hc⟩:=Q4 l.out o;have ab:(k:Int)<(V.length:Int):=by omega
 subst aa;by_cases h:v=0\/v=1
 ·have q:Hid (XF V (k:Int) b=if b then 2 else v):=by
    show _=_;unfold XF Ks;rw[L0,o];simp only;rw[if_pos (by simpa using h)];rfl
  clear o hk;rcases h with rfl|rfl
  all_goals
   cases b
   all_goals
    go_wp2
    go_ret
    exact⟨Zp q.out,z⟩
 ·have q:Hid (XF V (k:Int) b= -1):=by
    show _=_;unfold XF Ks;rw[L0,o];simp only;rw[if_neg (by simpa using h)]
  have e0:(v != 0)=true:=by simp;omega
  have e1:(v != 1)=true:=by simp;omega
  clear o hk h;go_wp2
  go_ret
  exact⟨Zp q.out,z⟩
def Yz (V:List Int)(n is:Int):Int:=if VN V n then is else-1
theorem AbD (A:Option Addr)(m cap:Nat)(is:Int)(p:PgV)(t n:Int)(w:World)(hok:p.ok w)(hn:0<=n):Calls Tryz.prog 358 #[.agg #[.slice A m cap,.int .i64 is],.agg p.cells,.agg (Nd.cells ⟨t,n⟩).toArray] w λe w'=>e=.returned (.int .i64 (Yz p.V n is))/\Below w.heap.size w w':=by
 have h:=Lv hok;clear hok;obtain⟨k,rfl⟩:∃k:Nat,n=(k:Int):=⟨n.toNat,by omega⟩;obtain⟨a,va,b,V,ba,d,g⟩:=p;dsimp only;rw[show(PgV.mk a va b V ba d g).cells=#[.int .i64 a,.slice va V.length b,.slice ba g.length d]from rfl,show(Nd.cells ⟨t,(k:Int)⟩).toArray=#[.int .i64 t,.int .i64 (k:Int)]from rfl];go_enter Tryz.func358,Tryz.ntmps358
 go_wp2_with (refine Qx _ _ rfl ?_)
 refine Stop.to ?_;refine Qf rfl 300 _ rfl #[.slice A m cap,.int .i64 is] rfl ?_;intro R Rw Rh q Rb;go_wp2_with (refine Qx _ _ rfl ?_)
 refine Stop.to ?_;refine Qf rfl 25 _ rfl #[.int .i64 a,.slice va V.length b,.slice ba g.length d] rfl ?_;intro G Gw x Gr u;go_wp2_with (refine Qx _ _ rfl ?_)
 refine Stop.to ?_;refine Qf rfl 52 _ rfl #[.int .i64 t,.int .i64 (k:Int)] rfl ?_;intro X Xw z Xr y;have rG:=Gr.below y (Lg Gr.lt z);have rR:=(q.below u (Lg q.lt x)).below y (Lg (q.below u (Lg q.lt x)).lt z);have b1:=(Below.refl w.heap.size w).trans (Rb.mono Rh);have b2:=b1.trans ((u.mono x).mono b1.size);have b3:=b2.trans ((y.mono z).mono b2.size);have c0:=rR.cellv (i:=1) (v:=.int .i64 is) rfl;have c1:=rG.cellv (i:=1) (v:=.slice va V.length b) rfl;have c2:=Xr.cellv (i:=1) (v:=.int .i64 (k:Int)) rfl;have o:=Lv (h.out.go b3).vrd;have l:=Lv h.out.vin;dsimp only at o l;clear rR rG q Gr Xr Rb u y b1 b2 Rh x z h;by_cases hk:k<V.length;rotate_left
 ·have s:Hid (Yz V (k:Int) is= -1):=by show _=_;unfold Yz VN;rw[L0,List.getElem?_eq_none (by omega)];rfl
  have ab:(V.length:Int)<=(k:Int):=by omega
  clear hk;go_wp2
  go_ret
  exact⟨Zp s.out,b3⟩
 obtain⟨v,j⟩:∃v,V[k]? =some v:=⟨_,Ld hk⟩;obtain⟨ad,aa,hc⟩:=Q4 o.out j;have Hi:=Lv (l.out v (Li j));have ab:(k:Int)<(V.length:Int):=by omega
 subst aa;by_cases c:Xa v=0
 ·have s:Hid (Yz V (k:Int) is= -1):=by
    show _=_;unfold Yz VN;rw[L0,j];simp only;rw[if_neg (by simpa using c)]
  have e0:(Xa v==0)=true:=by simpa using c
  clear j hk c;go_wp2_with (go_at_call 201;refine(Vx v _ Hi.out).mono ?_;rintro e w' ⟨rfl,rfl⟩)
  go_ret
  exact⟨Zp s.out,b3⟩
 ·have s:Hid (Yz V (k:Int) is=is):=by
    show _=_;unfold Yz VN;rw[L0,j];simp only;rw[if_pos (by simpa using c)]
  have e0:(Xa v==0)=false:=by simpa using c
  clear j hk c;go_wp2_with (go_at_call 201;refine(Vx v _ Hi.out).mono ?_;rintro e w' ⟨rfl,rfl⟩)
  go_ret
  exact⟨Zp s.out,b3⟩
end Go.Proofs.YtgnmkiafeplbpaaGreatDoor
namespace Go.Proofs.YtgnmkiafeplbpaaGreatDoor
open Go.Shelf
def Aes:Go.Shelf.Ren:=⟨λ|212=>270|263=>288|264=>289|n=>n,λ|46=>267|51=>42|146=>347|53=>113|148=>349|n=>n,λ|n=>n⟩
theorem Alu:Go.Proofs.Lays.n212 Tryz.prog Aes:={
 mixed:=by kernel_rfl
 f212:=Tryz.func270.trans (congrArg some (by kernel_rfl))
 f263:=Tryz.func288.trans (congrArg some (by kernel_rfl))
 f264:=Tryz.func289.trans (congrArg some (by kernel_rfl))
 t46:=Tryz.underlying267
 a46:=Tryz.isAgg267
 z46:=Tryz.sizeOf267
 v46:=Tryz.zeroValue267
 t51:=Tryz.underlying42
 a51:=Tryz.isAgg42
 z51:=Tryz.sizeOf42
 v51:=Tryz.zeroValue42
 t53:=Tryz.underlying113
 a53:=Tryz.isAgg113
 z53:=Tryz.sizeOf113
 v53:=Tryz.zeroValue113
 t146:=Tryz.underlying347
 a146:=Tryz.isAgg347
 z146:=Tryz.sizeOf347
 v146:=Tryz.zeroValue347
 t148:=Tryz.underlying349
 a148:=Tryz.isAgg349
 z148:=Tryz.sizeOf349
 v148:=Tryz.zeroValue349 }
open Go.RowKit Go.Lib in
theorem bits_Mul (x y:Nat)(hx:x<18446744073709551616)(hy:y<18446744073709551616)(w:World):
 Calls Tryz.prog 270 #[.int .u64 x,.int .u64 y] w λe w'=>e=.returned (.tuple #[.int .u64 ((x*y / 18446744073709551616:Nat):Int),.int .u64 ((x*y % 18446744073709551616:Nat):Int)])/\w'=w:=Any.bits_Mul Alu x y hx hy w
end Go.Proofs.YtgnmkiafeplbpaaGreatDoor
namespace Go.Proofs.YtgnmkiafeplbpaaGreatDoor
open Go.RowKit Go.Deep
theorem AbM (z:Value)(n:Nat):madeCells #[z] n=(List.replicate n z).toArray:=by
 unfold madeCells;apply Array.ext
 ·simp
 ·intro i a b;simp[Nat.mod_one]
theorem AmQ (a b:Nat):Nat.min a b<=a/\Nat.min a b<=b/\(Nat.min a b=a\/Nat.min a b=b):=by
 show min a b<=a/\min a b<=b/\(min a b=a\/min a b=b);omega
theorem AbT{P:Program}{o:Oper}{w w1:World}{ρ:Operand->Value}{s x:Operand}{t t':TypeId}(ho:o.op=.call { callee:=.builtin .copy,args:=#[s,x],argTypes:=#[t,t'] }){v:Value}(hv:(Builtin.copy_ #[t,t'] o.type #[ρ s,ρ x]).run P w=.ok v w1):(execOp ρ o).run P w=.ok (.value v) w1:=by
 unfold execOp;simp only[ho,resolve,invoke,builtin,Sem.run_bind,Sem.run_pure,Result.andThen_ok,Nw,No,List.map_nil,hv]
theorem Abr (k n m:Nat)(x:Int)(hk:k+m<=n):splice (Qj (List.replicate k x++List.replicate (n-k) 0)) k (Qj (List.replicate m x))=Qj (List.replicate (k+m) x++List.replicate (n-(k+m)) 0):=by
 unfold splice Qj;simp only[LW,List.map_replicate,N3];rw[Np (by simp),Lm (by simp),List.drop_append,List.drop_eq_nil_of_le (by simp),N3,List.drop_replicate,Lu, <-L4,List.replicate_append_replicate,show n-k-(k+m-k)=n-(k+m) by omega]
theorem Age (g cap n:Nat)(x:Int)(w:World)(hr:Row w g 3 #[.int .i64 x])(hn:n<=1000):Calls Tryz.prog 261 #[.slice (some ⟨g,0,none⟩) 1 cap,.int .i64 (n:Int)] w λe w'=>IntsR (List.replicate n x) w w' e:=by
 have z:∀W,Calls Tryz.prog 270 #[.int .u64 1,.int .u64 (n:Int)] W λe w'=>e=.returned (.tuple #[.int .u64 0,.int .u64 (n:Int)])/\w'=W:=λW=>by
  have:=bits_Mul 1 n (by omega) (by omega) W;rw[Nat.one_mul,Nat.div_eq_of_lt (by omega),LE (by omega)]at this;exact this
 have s:=Lv z;clear z
 have al:∀W:World,(Instr.makeSlice 22 (.int .i64 (n:Int)) (.int .i64 (n:Int))).run Tryz.prog W=.ok (.slice (some ⟨W.heap.size,0,none⟩) n n) (W.alloc (.cells (Qj (List.replicate n 0)).toArray 3)):=λW=>by
  have:=run_make_row' (P:=Tryz.prog) (w:=W) 22 3 (.int .i64 0) 8 Tryz.underlying22 Ju rfl .i64 .i64 n (by omega) (by omega);rw[show madeCells #[Value.int .i64 0] n=(Qj (List.replicate n 0)).toArray from by rw[AbM];simp[Qj]]at this;exact this
 go_enter Tryz.func261,Tryz.ntmps261
 have an:decide ((n:Int)<0)=false:=by simp
 have aj:decide (9223372036854775807<(n:Int))=false:=by simp;omega
 go_wp2_with fail
 refine(s.out w).mono ?_;rintro e w1 ⟨rfl,hw⟩;subst hw;clear s;have b:=Abr 0 n (Nat.min 1 n) x (by rw[LS];exact Nat.min_le_right _ _);rw[LS,List.replicate_zero,Lu,Nat.sub_zero]at b;have c:=Lv b;clear b;have rn:=Row.new w1 3 (Qj (List.replicate n 0)).toArray;have ai:=hr.alloc (.cells (Qj (List.replicate n 0)).toArray 3)
 have ae:∀(j:Nat) (v:Value),(Qj (List.replicate (Nat.min 1 n) x))[j]? =some v->(w1.alloc (.cells (Qj (List.replicate n 0)).toArray 3)).cell? ((⟨g,0,none⟩:Addr).add j)=some v:=
  ai.from_ 0 (cs:=Qj (List.replicate (Nat.min 1 n) x)) (λj v hj=>by
   have a:=(Lf.1 hj).1
   have h1:(Qj (List.replicate (Nat.min 1 n) x)).length<=1:=by simp[Qj];exact Nat.min_le_left _ _
   obtain rfl:j=0:=by omega
   rw[<-hj]
   simp only[Qj,List.map_replicate,NH]
   rw[if_pos (by simpa[Qj]using a)];rfl)
 have ab:=Lv ae;have Rn:=Lv rn;have l:(Qj (List.replicate (Nat.min 1 n) x)).length=Nat.min 1 n:=by simp[Qj]
 have o:=Lv l;clear rn ai hr ae l;go_wp2_with (refine wpList_copy_splice rfl (.tmp 31) (.tmp 32) 22 22 rfl 3 Tryz.underlying22 rfl (some ⟨w1.heap.size,0,none⟩) (some ⟨g,0,none⟩) n n 1 cap rfl rfl w1.heap.size 0 (Qj (List.replicate n 0)) 3 Rn.out (Qj (List.replicate (Nat.min 1 n) x)) o.out (λ_=>⟨rfl,_,rfl,ab.out⟩) (by rw[o.out];simp[Qj];exact Nat.min_le_right _ _) (KF _) w1.heap.size w1 ((Below.refl _ _).alloc (Nat.le_refl _) _) (Nat.le_refl _) ?_;intro w2 h2 b2)
 have r2:Row w2 w1.heap.size 3 (Qj (List.replicate (Nat.min 1 n) x++List.replicate (n-Nat.min 1 n) 0)).toArray:=by rw[<-c.out];exact h2.out
 obtain⟨G,hG⟩:∃G,G=w1.heap.size:=⟨_,rfl⟩;rw[<-hG]at r2|-;obtain⟨k0,p⟩:∃k0,k0=Nat.min 1 n:=⟨_,rfl⟩;rw[o.out, <-p];rw[<-p]at r2;have d:k0<=n/\(k0=0->n=0):=by have:=AmQ 1 n;rw[<-p]at this;omega
 have HG:=Lv hG;clear hG p c ab Rn o h2 al;go_wp2
 go_loopw [8] (λi wr=>∃k:Nat,i=.int .i64 (k:Int)/\k<=n/\(k=0->n=0)/\Row wr G 3 (Qj (List.replicate k x++List.replicate (n-k) 0)).toArray/\Below w1.heap.size w1 wr) (λi _=>n-(intOf i).toNat)
 case atStart=>exact⟨k0,rfl,d.1,d.2,r2,b2⟩
 case round=>
  clear r2 b2 w2;obtain⟨k,rfl,ar,y,hr,hb⟩:=hrel;by_cases a:k<n
  ·have ao:(k:Int)<(n:Int):=by omega
   have ak:0<k:=by
    rcases Nj k with h|h
    ·have:=y h;omega
    ·exact h
   obtain⟨m,hm⟩:∃m,m=Nat.min k (n-k):=⟨_,rfl⟩;have ah:=AmQ k (n-k);rw[<-hm]at ah;obtain⟨ap,au,am⟩:=ah;have av:0<m:=by omega
   clear am;have Hm:=Lv hm;clear hm y a d;have aq:(n:Int)-(k:Int)=((n-k:Nat):Int):=by omega
   have af:∀(j:Nat) (v:Value),(Qj (List.replicate m x))[j]? =some v->wr.drew.cell? ((⟨G,0,none⟩:Addr).add j)=some v:=
    hr.drew.from_ 0 (cs:=Qj (List.replicate m x)) (λj v hj=>by
     have a:j<m:=by have:=(Lf.1 hj).1;simpa[Qj]using this
     rw[<-hj]
     simp only[Qj,List.map_replicate,NH,LW,LS,List.getElem?_toArray]
     rw[if_pos a,LQ (by simp;omega),NH,if_pos (by omega)])
   have aa:=Lv af;have Hr:=Lv hr.drew;have Hb:=Lv (Jq hb 1);have b:=Abr k n m x (by omega);have c:=Lv b;have ac:Hid ((Qj (List.replicate m x)).length=Nat.min k (n-k)):=by show _=_;rw[<-Hm.out];simp[Qj]
   have u:k+(Qj (List.replicate m x)).length<=(Qj (List.replicate k x++List.replicate (n-k) 0)).length:=by simp[Qj];omega
   have q:=Lv u;clear af hr hb b u;go_wp2_with fail
   refine wp_region_held (S:=λ_=>True) (by kernel_rfl) ?_;simp only[Ly,Le,Ll,Nat.reduceAdd,Ln,Lp,Lz,Lu,Lk];show wpAnyH _ _ _ _ _ _ _ _ wr.drew;have hS:(λ_:World=>True) wr.drew:=trivial;have Hb:Hid (Below w1.heap.size w1 wr.drew):=Hb.out;generalize wr.drew=wd at aa Hr hS Hb|-;(refine tkH 0 (.int .i64 (k:Int)) rfl (Qd rfl (λW t=>by(go_simp))) ?_;simp only[Act.put,Qa,Qb,Qc]);(refine tkH 1 (.slice (some ⟨G,0,none⟩) n n) rfl (Qd rfl (λW t=>by(go_simp))) ?_;simp only[Act.put,Qa,Qb,Qc]);(refine tkH 2 (.int .i64 (k:Int)) rfl (Qd rfl (λW t=>by(go_simp))) ?_;simp only[Act.put,Qa,Qb,Qc]);(refine tkH 4 (.slice (some ⟨G,0,none⟩) n n) rfl (Qd rfl (λW t=>by(go_simp))) ?_;simp only[Act.put,Qa,Qb,Qc]);(refine tkH 5 (.int .i64 (k:Int)) rfl (Qd rfl (λW t=>by(go_simp))) ?_;simp only[Act.put,Qa,Qb,Qc]);(refine tkH 3 (.slice (some ⟨G,k,none⟩) (n-k) (n-k)) rfl (Qd rfl (λW t=>by(go_simp;omega))) ?_;simp only[Act.put,Qa,Qb,Qc]);(refine tkH 6 (.slice (some ⟨G,0,none⟩) k n) rfl (Qd rfl (λW t=>by(go_simp))) ?_;simp only[Act.put,Qa,Qb,Qc]);(refine wpAnyH_all (rs:=[7]) (by kernel_rfl) (by simp) (λi hi=>?_);obtain rfl:i=7:=by simpa using hi);refine Qg rfl rfl (λK2 ad=>?_);refine Qr (goInt (Qj (List.replicate m x)).length) (w1:=_) (by exact AbT rfl (run_copy_row (P:=Tryz.prog) wd 22 22 _ 3 G k (n-k) (n-k) ⟨G,0,none⟩ k n _ 3 (Qj (List.replicate m x)) Tryz.underlying22 rfl Hr.out ac.out aa.out (by simpa using q.out) (KF _))) ?_;rw[show goInt (Qj (List.replicate m x)).length=.int .i64 (m:Int) by simp[goInt,Qj]]
   have r3:Row (wd.setRow G ((Qj (List.replicate k x++List.replicate (n-k) 0)).toArray.toList.take k++Qj (List.replicate m x)++(Qj (List.replicate k x++List.replicate (n-k) 0)).toArray.toList.drop (k+(Qj (List.replicate m x)).length)).toArray) G 3 (Qj (List.replicate (k+m) x++List.replicate (n-(k+m)) 0)).toArray:=by
    rw[<-c.out,splice, <-L4];exact Hr.out.setRow _
   have b3:=AbE (g:=G) Hb.out (LI HG.out.symm) ((Qj (List.replicate k x++List.replicate (n-k) 0)).toArray.toList.take k++Qj (List.replicate m x)++(Qj (List.replicate k x++List.replicate (n-k) 0)).toArray.toList.drop (k+(Qj (List.replicate m x)).length)).toArray;refine ad _ _ ?_;clear ad K2;generalize wd.setRow G _=we at r3 b3|-;simp only[Act.put,Qa,Qb,Qc];refine⟨trivial,?_⟩;have ag:IntKind.i64.wrap ((k:Int)+(m:Int))=((k+m:Nat):Int):=by rw[IntWalk.i64_in _ (by omega)];omega
   (refine tkH 8 (.int .i64 ((k+m:Nat):Int)) rfl (Qd rfl (λW t=>by(go_simp;try exact ag))) ?_;simp only[Act.put,Qa,Qb,Qc])
   (refine tkH 9 (.int .i64 ((k+m:Nat):Int)) rfl (Qd rfl (λW t=>by(go_simp))) ?_;simp only[Act.put,Qa,Qb,Qc]);refine wpAnyH_done (by kernel_rfl) ?_ _;have R3:=Lv r3;have B3:=Lv b3;clear r3 b3 ag Hr aa Hb c ac q;go_wp2
   go_roundw
   case rel=>exact⟨k+m,rfl,by omega,by omega,R3.out,B3.out⟩
   case measure=>simp[intOf];omega
  ·obtain rfl:n=k:=by omega
   have Hr:=Lv hr;clear a hr;go_wp2
   go_ret
   refine⟨_,rfl,?_,hb⟩;have h1:=Hr.out;rw[Nat.sub_self,List.replicate_zero,LT]at h1;rw[N3];exact⟨by simp[Qj],.inr ⟨G,n,_,rfl,by have:=HG.out;omega,h1,Nat.le_refl _,by unfold maxLen;omega,by simp[Qj],by simp[Qj]⟩⟩
section
variable {A:Option Addr} {n cap:Nat} {is:Int} {b:Bool} {w:World}
theorem Am0:(Instr.typeAssert (.iface 296 (.agg #[.slice A n cap,.int .i64 is])) 302 296 true).run Tryz.prog w=.ok (.tuple #[.agg #[.slice A n cap,.int .i64 is],.bool true]) w:=by kernel_rfl
theorem AmW:(Instr.typeAssert (.iface 300 (.agg #[.slice A n cap,.int .i64 is])) 302 296 true).run Tryz.prog w=.ok (.tuple #[.agg #[.slice none 0 0,.int .i64 0],.bool false]) w:=by kernel_rfl
theorem AmV:(Instr.typeAssert (.iface 300 (.agg #[.slice A n cap,.int .i64 is])) 302 300 true).run Tryz.prog w=.ok (.tuple #[.agg #[.slice A n cap,.int .i64 is],.bool true]) w:=by kernel_rfl
theorem Am2:(Instr.typeAssert (.iface 298 (.agg #[.bool b])) 302 296 true).run Tryz.prog w=.ok (.tuple #[.agg #[.slice none 0 0,.int .i64 0],.bool false]) w:=by kernel_rfl
theorem Am1:(Instr.typeAssert (.iface 298 (.agg #[.bool b])) 302 300 true).run Tryz.prog w=.ok (.tuple #[.agg #[.slice none 0 0,.int .i64 0],.bool false]) w:=by kernel_rfl
theorem Am3:(Instr.typeAssert (.iface 298 (.agg #[.bool b])) 302 298 true).run Tryz.prog w=.ok (.tuple #[.agg #[.bool b],.bool true]) w:=by kernel_rfl
theorem AmY:(Instr.typeAssert .nilIface 302 296 true).run Tryz.prog w=.ok (.tuple #[.agg #[.slice none 0 0,.int .i64 0],.bool false]) w:=by kernel_rfl
theorem AmX:(Instr.typeAssert .nilIface 302 300 true).run Tryz.prog w=.ok (.tuple #[.agg #[.slice none 0 0,.int .i64 0],.bool false]) w:=by kernel_rfl
theorem AmZ:(Instr.typeAssert .nilIface 302 298 true).run Tryz.prog w=.ok (.tuple #[.agg #[.bool false],.bool false]) w:=by kernel_rfl
theorem Agp:(zeroValue 296).run Tryz.prog w=.ok (.agg #[.slice none 0 0,.int .i64 0]) w:=by kernel_rfl
theorem Ae2:(zeroValue 300).run Tryz.prog w=.ok (.agg #[.slice none 0 0,.int .i64 0]) w:=by kernel_rfl
theorem AdE:(zeroValue 298).run Tryz.prog w=.ok (.agg #[.bool false]) w:=by kernel_rfl
end
theorem AdO (A:Option Addr)(n cap:Nat)(is:Int)(p:PgV)(x:Nd)(m:Int)(w:World):Calls Tryz.prog 243 #[.agg p.cells,.agg x.cells.toArray,.iface 296 (.agg #[.slice A n cap,.int .i64 is]),.int .i64 m] w λe w'=>e=.returned (.slice A n cap)/\Below w.heap.size w w':=by
 have t1:=λw=>Am0 (A:=A) (n:=n) (cap:=cap) (is:=is) (w:=w)
 go_enter Tryz.func243,Tryz.ntmps243
 go_wp2_with (refine Qx _ _ rfl ?_)
 refine Stop.to ?_;refine Qf rfl 25 _ rfl p.cells rfl ?_;intro G z g t d;go_wp2_with (refine Qx _ _ rfl ?_)
 refine Stop.to ?_;refine Qf rfl 52 _ rfl x.cells.toArray rfl ?_;intro X Xw s u q;have c:=(Below.refl w.heap.size w).trans (d.mono g);have a:=c.trans ((q.mono s).mono c.size);go_wp2_with (refine Qs _ rfl ?_)
 refine Stop.to ?_;refine Qi rfl 296 rfl _ _ Agp rfl ?_;intro R b l o k;go_wp2_with (refine Qk _ _ _ rfl ?_)
 refine Stop.to ?_;refine Qh rfl 296 _ _ rfl R #[.slice A n cap,.int .i64 is] rfl rfl 296 _ o (by kernel_rfl) rfl (by simp[Value.oneCell']) ?_;intro RW j h;have RB:Below b.heap.size b b:=Below.refl _ _;have y:=(a.trans ((k.mono l).mono a.size)).trans (h.below (by have:=a.size;omega));have c0:=j.cellv (i:=0) (v:=.slice A n cap) rfl;clear j h o k t d u q c a g s l RB;go_wp2
 go_ret
 exact⟨rfl,y⟩
theorem AdN (A:Option Addr)(n cap:Nat)(is:Int)(p:PgV)(x:Nd)(m:Int)(w:World):Calls Tryz.prog 243 #[.agg p.cells,.agg x.cells.toArray,.iface 300 (.agg #[.slice A n cap,.int .i64 is]),.int .i64 m] w λe w'=>e=.returned (.slice A n cap)/\Below w.heap.size w w':=by
 have t1:=λw=>AmW (A:=A) (n:=n) (cap:=cap) (is:=is) (w:=w)
 have t2:=λw=>AmV (A:=A) (n:=n) (cap:=cap) (is:=is) (w:=w)
 go_enter Tryz.func243,Tryz.ntmps243
 go_wp2_with (refine Qx _ _ rfl ?_)
 refine Stop.to ?_;refine Qf rfl 25 _ rfl p.cells rfl ?_;intro G z g t d;go_wp2_with (refine Qx _ _ rfl ?_)
 refine Stop.to ?_;refine Qf rfl 52 _ rfl x.cells.toArray rfl ?_;intro X Xw s u q;have c:=(Below.refl w.heap.size w).trans (d.mono g);have a:=c.trans ((q.mono s).mono c.size);go_wp2_with (refine Qs _ rfl ?_)
 refine Stop.to ?_;refine Qi rfl 300 rfl _ _ Ae2 rfl ?_;intro R b l o k;go_wp2_with (refine Qk _ _ _ rfl ?_)
 refine Stop.to ?_;refine Qh rfl 300 _ _ rfl R #[.slice A n cap,.int .i64 is] rfl rfl 300 _ o (by kernel_rfl) rfl (by simp[Value.oneCell']) ?_;intro RW j h;have RB:Below b.heap.size b b:=Below.refl _ _;have y:=(a.trans ((k.mono l).mono a.size)).trans (h.below (by have:=a.size;omega));have c0:=j.cellv (i:=0) (v:=.slice A n cap) rfl;clear j h o k t d u q c a g s l RB;go_wp2
 go_ret
 exact⟨rfl,y⟩
structure WantR (want:List Int)(w w':World)(e:Ending):Prop where
 ex:∃A cap,e=.returned (.slice A want.length cap)/\Rd w' A (Qj want)/\Below w.heap.size w w'
def KB (V:List Int)(n:Int)(b:Bool):List Int:=if b/\n.toNat<V.length then [(V[n.toNat]?).getD 0]else []
theorem Ac3 (b:Bool)(p:PgV)(t n:Int)(hn:0<=n)(m:Int)(w:World)(hok:p.ok w):Calls Tryz.prog 243 #[.agg p.cells,.agg (Nd.cells ⟨t,n⟩).toArray,.iface 298 (.agg #[.bool b]),.int .i64 m] w λe w'=>WantR (KB p.V n b) w w' e:=by
 have h:=Lv hok;clear hok;obtain⟨k,rfl⟩:∃k:Nat,n=(k:Int):=⟨n.toNat,by omega⟩;obtain⟨c,va,a,V,ba,d,g⟩:=p;dsimp only;have o:=Lv h.out.vlen;have q:=Lv h.out.vmax;dsimp only at o q;rw[show(PgV.mk c va a V ba d g).cells=#[.int .i64 c,.slice va V.length a,.slice ba g.length d]from rfl,show(Nd.cells ⟨t,(k:Int)⟩).toArray=#[.int .i64 t,.int .i64 (k:Int)]from rfl];have t1:=λw=>Am2 (b:=b) (w:=w)
 have t2:=λw=>Am1 (b:=b) (w:=w)
 have t3:=λw=>Am3 (b:=b) (w:=w)
 go_enter Tryz.func243,Tryz.ntmps243
 go_wp2_with (refine Qx _ _ rfl ?_)
 refine Stop.to ?_;refine Qf rfl 25 _ rfl #[.int .i64 c,.slice va V.length a,.slice ba g.length d] rfl ?_;intro G Gw Gh x Gb;go_wp2_with (refine Qx _ _ rfl ?_)
 refine Stop.to ?_;refine Qf rfl 52 _ rfl #[.int .i64 t,.int .i64 (k:Int)] rfl ?_;intro X Xw Xh Xr Xb;have b1:=(Below.refl w.heap.size w).trans (Gb.mono Gh);have b2:=b1.trans ((Xb.mono Xh).mono b1.size);go_wp2_with (refine Qs _ rfl ?_)
 refine Stop.to ?_;refine Qi rfl 298 rfl _ _ AdE rfl ?_;intro R Rw Rh Rr Rb;go_wp2_with (refine Qk _ _ _ rfl ?_)
 refine Stop.to ?_;refine Qh rfl 298 _ _ rfl R #[.bool b] rfl rfl 298 _ Rr (by kernel_rfl) rfl (by simp[Value.oneCell']) ?_;intro RW RR RO;have RB:Below Rw.heap.size Rw Rw:=Below.refl _ _;have l:Below Xw.heap.size Xw RW:=(Rb.mono Rh).trans (RO.below Rh);have rG:=(x.below Xb (Lg x.lt Xh)).below l (by have:=(x.below Xb (Lg x.lt Xh)).lt;omega);have rX:=Xr.below l Xr.lt;have b3:=b2.trans (l.mono b2.size);have c0:=RR.cellv (i:=0) (v:=.bool b) rfl;have c1:=rG.cellv (i:=1) (v:=.slice va V.length a) rfl;have c2:=rX.cellv (i:=1) (v:=.int .i64 (k:Int)) rfl;have y:=Lv (h.out.go b3).vrd;dsimp only at y;clear RR RO Rr Rb x Gb Xr Xb b1 b2 Gh Xh Rh RB l rG rX h t1 t2 t3;cases b with
 |false=>
  have s:Hid (KB V (k:Int) false=[]):=by show _=_;unfold KB;rw[if_neg (by simp)]
  go_wp2
  go_ret
  exact⟨none,0,by rw[s.out];rfl,by rw[s.out];exact Rd.nil _ _,b3⟩
 |true=>
  by_cases hk:k<V.length
  ·obtain⟨v,hv⟩:∃v,V[k]? =some v:=⟨_,Ld hk⟩;obtain⟨ad,aa,hc⟩:=Q4 y.out hv;have s:Hid (KB V (k:Int) true=[v]):=by show _=_;unfold KB;rw[L0,if_pos ⟨rfl,hk⟩,hv];rfl
   have ac:(k:Int)<(V.length:Int):=by omega
   have ae:=o.out;have z:=q.out;unfold maxLen at z;have af:¬a=k:=by omega
   have Hc:=Lv hc;subst aa;clear hv hk hc;go_wp2
   go_ret
   refine⟨some (ad.add k),a-k,by rw[s.out];rfl,?_,b3⟩;rw[s.out];intro j u hj;refine⟨_,rfl,?_⟩
   have ab:j=0:=by
    have:=(Lf.1 hj).1;simp[Qj]at this;exact this
   subst ab;have hu:Value.int .i64 v=u:=by simpa[Qj]using hj
   rw[Yy,Nat.add_zero, <-hu];exact Hc.out
  ·have s:Hid (KB V (k:Int) true=[]):=by show _=_;unfold KB;rw[if_neg (by simp;omega)]
   have ac:(V.length:Int)<=(k:Int):=by omega
   clear hk;go_wp2
   go_ret
   exact⟨none,0,by rw[s.out];rfl,by rw[s.out];exact Rd.nil _ _,b3⟩
theorem Ahq (p:PgV)(x:Nd)(m:Nat)(hm:m<=1000)(w:World):Calls Tryz.prog 243 #[.agg p.cells,.agg x.cells.toArray,.nilIface,.int .i64 (m:Int)] w λe w'=>WantR (List.replicate m 2) w w' e:=by
 have u:=λw=>AmY (w:=w)
 have y:=λw=>AmX (w:=w)
 have z:=λw=>AmZ (w:=w)
 go_enter Tryz.func243,Tryz.ntmps243
 go_wp2_with (refine Qx _ _ rfl ?_)
 refine Stop.to ?_;refine Qf rfl 25 _ rfl p.cells rfl ?_;intro G s l q k;go_wp2_with (refine Qx _ _ rfl ?_)
 refine Stop.to ?_;refine Qf rfl 52 _ rfl x.cells.toArray rfl ?_;intro X h o t n;have i:=(Below.refl w.heap.size w).trans (k.mono l);have j:=i.trans ((n.mono o).mono i.size);go_wp2_with fail
 refine(Age h.heap.size 1 m 2 _ (Row.new h 3 #[.int .i64 2]) hm).mono ?_;rintro e w4 ⟨v,rfl,a,d⟩;have d:=j.trans ((((Below.refl _ _).alloc (Nat.le_refl _) _).trans (d.mono (by simp))).mono j.size);obtain⟨A,g,rfl,b,_,_⟩:=Af7 a;have c:=Lv b;clear a b;go_wp2
 go_ret
 refine⟨A,g,?_,c.out,d⟩;rw[N3];rfl
end Go.Proofs.YtgnmkiafeplbpaaGreatDoor
