/- Lemmas for ArAll. -/
import Derived.Test.YtgnmkiafeplbpaaGreatDoorZf2
import Derived.Test.YtgnmkiafeplbpaaGreatDoorZf1
import Derived.ChangeMaps4
set_option linter.unusedVariables false
set_option linter.unusedSimpArgs false
set_option maxRecDepth 100000
set_option maxHeartbeats 16000000
namespace Go.Proofs.YtgnmkiafeplbpaaGreatDoor
open Go.RowKit
mutual
def QS (own:List Int)(q:Nat):Tr->List (Nat×List Int)
 | .node _ ks=>(q,own)::Zj own (q+1) 0 ks
def Zj (own:List Int)(q:Nat)(i:Int):List Tr->List (Nat×List Int)
 |[]=>[]
 |t::ts=>QS (own++[i]) q t++Zj own (q+t.size) (i+1) ts
end
mutual
theorem Jv:∀(t:Tr) (own:List Int) (q:Nat),(QS own q t).length=t.size
 | .node x ks,own,q=>by rw[QS,Le,Aa2 ks,Tr.size,Tr.flat,Le]
theorem Aa2:∀(ts:List Tr) (own:List Int) (q:Nat) (i:Int),(Zj own q i ts).length=(QM ts).length
 |[],_,_,_=>by simp[Zj,QM]
 |t::ts,own,q,i=>by rw[Zj,La,Jv t,Aa2 ts,QM,La];rfl
end
mutual
theorem Ed:∀(t:Tr) (own:List Int) (q j:Nat) (e:Nat×List Int),(QS own q t)[j]? =some e->e.1=q+j
 | .node x ks,own,q,0,e,h=>by simp[QS]at h;subst h;rfl
 | .node x ks,own,q,j+1,e,h=>by
  rw[QS,LU]at h
  have:=AcI ks own (q+1) 0 j e h
  omega
theorem AcI:∀(ts:List Tr) (own:List Int) (q:Nat) (i:Int) (j:Nat) (e:Nat×List Int),(Zj own q i ts)[j]? =some e->e.1=q+j
 |[],_,_,_,_,_,h=>by simp[Zj]at h
 |t::ts,own,q,i,j,e,h=>by
  rw[Zj]at h
  by_cases hj:j<t.size
  ·rw[LQ (by rw[Jv];exact hj)]at h
   exact Ed t _ q j e h
  ·rw[LZ (by rw[Jv];omega),Jv]at h
   have:=AcI ts own _ (i+1) _ e h
   omega
end
def ZX:List Int->Nat->Tr->Option (Nat×Tr)
 |[],q,t=>some (q,t)
 |i::π,q,.node _ ks=>if i<0 then none else match (Zm (q+1) ks)[i.toNat]?,ks[i.toNat]? with
  |some r,some k=>ZX π r k
  |_,_=>none
theorem AaE{l:List Nd}:∀{π:List Int} {q r:Nat} {t k:Tr},At l q t->ZX π q t=some (r,k)->At l r k
 |[],q,r,t,k,h,e=>by simp[ZX]at e;obtain⟨rfl,rfl⟩:=e;exact h
 |i::π,q,r,.node x ks,k,h,e=>by
  rw[ZX]at e
  split at e
  ·cases e
  ·split at e
   ·rename_i r1 k1 h1 h2
    exact AaE (h.kids.spot i.toNat r1 k1 h1 h2).1 e
   ·cases e
mutual
theorem KG:∀(t:Tr) (own:List Int) (q r:Nat) (π:List Int),(r,own++π)∈QS own q t<->∃k,ZX π q t=some (r,k)
 | .node x ks,own,q,r,[]=>by
  rw[QS,LT,L6,ZX]
  constructor
  ·rintro(e|h)
   ·injection e with e1 _;subst e1;exact⟨_,rfl⟩
   ·obtain⟨j,ρ,e,_⟩:=K4 ks own (q+1) 0 r own h
    have:=congrArg List.length e
    simp at this
  ·rintro⟨k,e⟩
   injection e with e;injection e with e1 e2
   subst e1;exact .inl rfl
 | .node x ks,own,q,r,i::π=>by
  rw[QS,L6,ZX]
  have hne:(r,own++i::π)≠(q,own):=λe=>by
   injection e with _ e;have:=congrArg List.length e;simp at this
  rw[or_iff_right hne,EE ks own (q+1) 0 r i π]
  constructor
  ·rintro⟨g,s,k,a,b,c,d⟩
   rw[Int.sub_zero]at a b
   rw[if_neg (by omega),a,b]
   exact⟨c,d⟩
  ·rintro⟨c,h⟩
   split at h
   ·cases h
   ·split at h
    ·rename_i s k a b
     exact⟨by omega,s,k,by rw[Int.sub_zero];exact a,by rw[Int.sub_zero];exact b,c,h⟩
    ·cases h
theorem K4:∀(ts:List Tr) (own:List Int) (q:Nat) (i:Int) (r:Nat) (σ:List Int),(r,σ)∈Zj own q i ts->∃(j:Int) (ρ:List Int),σ=own++j::ρ/\i<=j
 |[],_,_,_,_,_,h=>by simp[Zj]at h
 |t::ts,own,q,i,r,σ,h=>by
  rw[Zj,LG]at h
  rcases h with h|h
  ·obtain⟨ρ,e⟩:=UK t (own++[i]) q r σ h
   exact⟨i,ρ,by rw[e];simp,Int.le_refl _⟩
  ·obtain⟨j,ρ,e,hj⟩:=K4 ts own _ (i+1) r σ h
   exact⟨j,ρ,e,by omega⟩
theorem UK:∀(t:Tr) (own:List Int) (q r:Nat) (σ:List Int),(r,σ)∈QS own q t->∃ρ,σ=own++ρ
 | .node x ks,own,q,r,σ,h=>by
  rw[QS,L6]at h
  rcases h with e|h
  ·injection e with _ e;exact⟨[],by rw[e];simp⟩
  ·obtain⟨j,ρ,e,_⟩:=K4 ks own (q+1) 0 r σ h
   exact⟨j::ρ,e⟩
theorem EE:∀(ts:List Tr) (own:List Int) (q:Nat) (i:Int) (r:Nat) (j:Int) (π:List Int),(r,own++j::π)∈Zj own q i ts<->i<=j/\∃s k,(Zm q ts)[(j-i).toNat]? =some s/\ts[(j-i).toNat]? =some k/\∃k',ZX π s k=some (r,k')
 |[],_,_,_,_,_,_=>by simp[Zj]
 |t::ts,own,q,i,r,j,π=>by
  rw[Zj,LG,EE ts own _ (i+1) r j π]
  constructor
  ·rintro(h|⟨hi,s,k,h1,h2,h3⟩)
   ·obtain⟨ρ,e⟩:=UK t (own++[i]) q r _ h
    rw[L4,List.append_cancel_left_eq]at e
    injection e with e1 e2
    subst e1
    rw[show own++j::π=(own++[j])++π by simp]at h
    refine⟨Int.le_refl _,q,t,by simp[Zm],by simp,(KG t (own++[j]) q r π).1 h⟩
   ·refine⟨by omega,s,k,?_,?_,h3⟩
    ·rw[show(j-i).toNat=(j-(i+1)).toNat+1 by omega,Zm,LU];exact h1
    ·rw[show(j-i).toNat=(j-(i+1)).toNat+1 by omega,LU];exact h2
  ·rintro⟨hi,s,k,h1,h2,h3⟩
   by_cases e:j=i
   ·subst e
    rw[Int.sub_self]at h1 h2
    simp[Zm]at h1 h2
    subst h1;subst h2
    refine .inl ?_
    rw[show own++j::π=(own++[j])++π by simp]
    exact(KG t (own++[j]) q r π).2 h3
   ·refine .inr ⟨by omega,s,k,?_,?_,h3⟩
    ·rw[show(j-i).toNat=(j-(i+1)).toNat+1 by omega,Zm,LU]at h1;exact h1
    ·rw[show(j-i).toNat=(j-(i+1)).toNat+1 by omega,LU]at h2;exact h2
end
theorem Aau:∀(own a b:List Int),Q6 (own++a) (own++b)=Q6 a b
 |[],_,_=>rfl
 |x::own,a,b=>by rw[Lk,Lk,Q6,Y5,if_neg (by simp),Aau own]
def Abd:List (Nat×List Int)->Prop
 |[]=>True
 |a::l=>(∀b∈l,Q6 a.2 b.2<0)/\Abd l
theorem Vn:∀{l m:List (Nat×List Int)},Abd l->Abd m->(∀a∈l,∀b∈m,Q6 a.2 b.2<0)->Abd (l++m)
 |[],m,_,h,_=>h
 |a::l,m,h1,h2,h=>⟨λb hb=>by
  rcases LG.1 hb with hb|hb
  ·exact h1.1 b hb
  ·exact h a (by simp) b hb,Vn h1.2 h2 (λx hx y hy=>h x (by simp[hx]) y hy)⟩
mutual
theorem EG:∀(t:Tr) (own:List Int) (q:Nat),Abd (QS own q t)
 | .node x ks,own,q=>by
  rw[QS]
  refine⟨λb hb=>?_,EF ks own (q+1) 0⟩
  obtain⟨r,σ⟩:=b
  obtain⟨j,ρ,e,_⟩:=K4 ks own (q+1) 0 r σ hb
  simp only
  rw[e,show Q6 own (own++j::ρ)=Q6 (own++[]) (own++j::ρ) by rw[LT],Aau]
  simp[Q6]
theorem EF:∀(ts:List Tr) (own:List Int) (q:Nat) (i:Int),Abd (Zj own q i ts)
 |[],_,_,_=>trivial
 |t::ts,own,q,i=>by
  rw[Zj]
  refine Vn (EG t _ q) (EF ts own _ (i+1)) λa ha b hb=>?_
  obtain⟨r,σ⟩:=a
  obtain⟨r',σ'⟩:=b
  obtain⟨ρ,e⟩:=UK t (own++[i]) q r σ ha
  obtain⟨j,ρ',e',hj⟩:=K4 ts own _ (i+1) r' σ' hb
  simp only
  have hij:Q3 i j<0:=cmpI_lt.2 (by omega)
  rw[e,e',L4,Aau,Lk,Lu,Q6,if_pos (by omega)]
  exact hij
end
theorem Abc:∀{l:List Int},J3 l->l.Pairwise (· <·)
 |[],_=>.nil
 |a::l,h=>.cons (λb hb=>Jy h hb) (Abc (Kt h))
theorem Aj4{l:List Dl}(h:l.Pairwise λa b=>Zw a b<0):K6 l:=by
 induction h with
 |nil=>trivial
 |@cons a l ha _ ih=>
  cases l with
  |nil=>trivial
  |cons b l=>exact⟨ha b (by simp),ih⟩
theorem Abe:∀{l:List (Nat×List Int)},Abd l->l.Pairwise λa b=>Q6 a.2 b.2<0
 |[],_=>.nil
 |a::l,h=>.cons h.1 (Abe h.2)
theorem AbG (x y:Nd):(Z7 x y).Pairwise λa b=>a.1<b.1\/(a.1=b.1/\a.2<b.2):=by
 unfold Z7;rw[List.pairwise_flatMap];refine⟨λe _=>?_,?_⟩
 ·rw[N4];exact(Abc (JX _ (Xe _))).imp λh=>.inr ⟨rfl,h⟩
 ·rw[N4];refine List.pairwise_lt_range.imp λ{i j} hij=>?_
  intro a c b d;rw[LL]at c d;obtain⟨m,_,rfl⟩:=c;obtain⟨n,_,rfl⟩:=d;exact .inl (by show(i:Int)+1<(j:Int)+1;omega)
def VZ (l:List Nd)(q:Nat):Nd:=(l[q]?).getD ⟨0,0⟩
def Je (l:List Nd)(q:Nat):List (Int×Int):=Z7 (VZ l q) (VZ l (q+1))
def KC (l:List Nd)(t:Tr):List Dl:=(QS [] 0 t).flatMap λe=>(Je l e.1).map λc=>⟨e.2,c.1,c.2⟩
theorem Ahj (l:List Nd)(t:Tr):K6 (KC l t):=by
 refine Aj4 ?_;unfold KC;rw[List.pairwise_flatMap];refine⟨λe _=>?_,?_⟩
 ·rw[N4];refine(AbG _ _).imp λ{a b} h=>?_
  unfold Zw orI;simp only[Ab4];rw[if_neg (by simp)];rcases h with h|⟨j,k⟩
  ·have:=cmpI_lt.2 h;rw[if_pos (by omega)];exact this
  ·rw[if_neg (by simpa using cmpI_eq.2 j)];exact cmpI_lt.2 k
 ·refine(Abe (EG t [] 0)).imp λ{a b} h=>?_
  intro d g e i;rw[LL]at g i;obtain⟨c,_,rfl⟩:=g;obtain⟨m,_,rfl⟩:=i;unfold Zw orI;simp only;rw[if_pos (by omega)];exact h
theorem allZ_mem{l:List Nd}{t:Tr}{d:Dl}:d∈KC l t<->∃q k,ZX d.path 0 t=some (q,k)/\(d.op,d.n)∈Je l q:=by
 unfold KC;rw[N7];constructor
 ·rintro⟨⟨q,π⟩,b,a⟩;rw[LL]at a;obtain⟨c,e,rfl⟩:=a;obtain⟨k,g⟩:=(KG t [] 0 q π).1 (by simpa using b);exact⟨q,k,g,e⟩
 ·rintro⟨q,k,b,a⟩;refine⟨(q,d.path),?_,?_⟩
  ·have:=(KG t [] 0 q d.path).2 ⟨k,b⟩;simpa using this
  ·rw[LL];exact⟨_,a,rfl⟩
theorem AlI{l:List Dl}(h:K6 l){m:Nat}{d e:Dl}(hm:l[m]? =some e)(hc:Zw e d<0):∀i,l[i]? =some d->m<i:=by
 intro i a;rcases Nat.lt_trichotomy m i with x|x|x
 ·exact x
 ·subst x;rw[hm]at a;injection a with a;subst a;rw[VP]at hc;omega
 ·have:=Uk h a hm x;rw[AiZ]at this;omega
theorem AlH{l:List Dl}(h:K6 l){m:Nat}{d e:Dl}(hm:l[m]? =some e)(hc:0<Zw e d):∀i,l[i]? =some d->i<m:=by
 intro i a;rcases Nat.lt_trichotomy i m with x|x|x
 ·exact x
 ·subst x;rw[hm]at a;injection a with a;subst a;rw[VP]at hc;omega
 ·have:=Uk h hm a x;omega
end Go.Proofs.YtgnmkiafeplbpaaGreatDoor
namespace Go.Proofs.YtgnmkiafeplbpaaGreatDoor
open Go.RowKit Go.Deep
def MapB (w:World)(r:Nat)(es:List (Int×Value)):Prop:=∃(arr:Array MapEntry) (clock:Nat),w.heap[r]? =some (.map arr clock)/\arr.toList.map (λe=>(e.key,e.val))=es.map (λp=>(Value.int .i64 p.1,p.2))
def KY (k:Int):List (Int×Value)->Option Value
 |[]=>none
 | (k',v)::es=>if k=k' then some v else KY k es
theorem MapB.lt{w:World}{r:Nat}{es:List (Int×Value)}(h:MapB w r es):r<w.heap.size:=by
 obtain⟨arr,a,b,_⟩:=h;exact(Lt.1 b).1
theorem MapB.below{w w':World}{r B:Nat}{es:List (Int×Value)}(h:MapB w r es)(b:Below B w w')(hr:r<B):MapB w' r es:=by
 obtain⟨arr,a,c,d⟩:=h;exact⟨arr,a,(b.block r hr).trans c,d⟩
instance St.mapB{r:Nat}{es:List (Int×Value)}:St (λW=>MapB W r es):=⟨λh b=>h.below b h.lt⟩
theorem YF (k:Int):∀(l:List MapEntry) (es:List (Int×Value)) (i:Nat),l.map (λe=>(e.key,e.val))=es.map (λp=>(Value.int .i64 p.1,p.2))->
 (match KY k es with|some v=>∃j,Instr.findNow (.int .i64) (.int .i64 k) l i=some (some (j,v))|none=>Instr.findNow (.int .i64) (.int .i64 k) l i=some none)
 |[],es,i,h=>by
  have:es=[]:=by simpa using h.symm
  subst this;rfl
 |e::l,[],i,h=>by simp at h
 |e::l,(k',v)::es,i,h=>by
  simp only[No,List.cons.injEq,Prod.mk.injEq]at h
  obtain⟨⟨h1,h2⟩,h3⟩:=h
  have ih:=YF k l es (i+1) h3
  have e1:Instr.findNow (.int .i64) (.int .i64 k) (e::l) i=match Instr.sameNow (.int .i64) (.int .i64 k) e.key with|some true=>some (some (i,e.val))|some false=>Instr.findNow (.int .i64) (.int .i64 k) l (i+1)|none=>none:=rfl
  rw[e1,h1]
  have e2:Instr.sameNow (.int .i64) (.int .i64 k) (.int .i64 k')=some (k==k'):=rfl
  rw[e2,KY]
  by_cases hk:k=k'
  ·rw[if_pos hk]
   refine⟨i,?_⟩
   rw[show(k==k')=true by simpa using hk,h2]
  ·rw[if_neg hk,show(k==k')=false by simpa using hk]
   exact ih
section
variable {P:Program} {w:World} {t kt et:TypeId} {r:Nat} {es:List (Int×Value)}
theorem Ku{b:Bool}{k:Int}(hk:P.underlying kt=some (.int .i64)):(Instr.checkKey b 10000 kt (.int .i64 k)).run P w=.ok () w:=by
 show(Instr.checkKey b (9999+1) kt (.int .i64 k)).run P w=.ok () w;rw[Instr.checkKey];simp[run_underlying hk]
theorem Abk (ht:P.underlying t=some (.map kt et))(hk:P.underlying kt=some (.int .i64))(h:MapB w r es)(k:Int){z:Value}(hz:(zeroValue et).run P w=.ok z w):
 (Instr.lookup t (.map (some r)) (.int .i64 k) false).run P w=.ok ((KY k es).getD z) w:=by
 obtain⟨arr,b,c,e⟩:=h;have a:=YF k arr.toList es 0 e;unfold Instr.lookup Instr.findKey;cases ha:KY k es with
 |some v=>
  rw[ha]at a;obtain⟨j,d⟩:=a;simp[run_underlying ht,run_underlying hk,Ku hk,MapKept.run_getObj_map c,d]
 |none=>
  rw[ha]at a;simp only at a;simp[run_underlying ht,run_underlying hk,Ku hk,MapKept.run_getObj_map c,a,hz]
theorem Abj (ht:P.underlying t=some (.map kt et))(hk:P.underlying kt=some (.int .i64))(h:MapB w r es)(k:Int)(v:Value)(hn:KY k es=none):
 ∃w',(Instr.mapUpdate t (.map (some r)) (.int .i64 k) v).run P w=.ok () w'/\MapB w' r (es++[(k,v)])/\Only r w w':=by
 obtain⟨arr,a,b,g⟩:=h;have c:=YF k arr.toList es 0 g;rw[hn]at c;simp only at c;have d:r<w.heap.size:=(Lt.1 b).1;refine⟨{ w with heap:=w.heap.setIfInBounds r (.map (arr.push { key:=.int .i64 k,val:=v,born:=a }) (a+1)) },?_,⟨arr.push { key:=.int .i64 k,val:=v,born:=a },a+1,?_,?_⟩,⟨rfl,rfl,rfl,by simp,λj i=>?_⟩⟩
 ·unfold Instr.mapUpdate Instr.findKey;simp[run_underlying ht,run_underlying hk,Ku hk,MapKept.run_getObj_map b,c,MapKept.run_setObj_map _ b]
 ·simp[d]
 ·simp[g]
 ·simp[Array.getElem?_setIfInBounds];intro e;exact absurd e.symm i
theorem MapB.new (w:World):MapB (w.alloc (.map #[] 0)) w.heap.size []:=⟨#[],0,heap_alloc_new w _,rfl⟩
end
section
variable {P:Program} {ops:Array Oper} {rest:List Oper} {o:Oper} {a:Act} {w:World} {Q:Exit->Act->World->Prop} {t kt et:TypeId} {r:Nat} {es:List (Int×Value)}
theorem EU{ρ:Operand->Value}{m x y:Operand}(ho:o.op=.insert t m x y\/o.op=.mapUpdate t m x y){k v:Value}{r:Value}(hm:ρ m=r)(hx:ρ x=k)(hy:ρ y=v){w':World}(h:(Instr.mapUpdate t r k v).run P w=.ok () w'):(execOp ρ o).run P w=.ok .skip w':=by
 rcases ho with ho|ho<;>simp[execOp,ho,hm,hx,hy,h]
theorem VI (hgd:o.guard=none)(m x y:Operand)(ho:o.op=.insert t m x y\/o.op=.mapUpdate t m x y)(ht:P.underlying t=some (.map kt et))(hk:P.underlying kt=some (.int .i64))(hb:MapB w r es)(hm:a.eval m=.map (some r))(k:Int)(v:Value)(hx:a.eval x=.int .i64 k)(hy:a.eval y=v)(hn:KY k es=none)
 (h:∀w',MapB w' r (es++[(k,v)])->Only r w w'->wpList P ops Q rest (a.put o.dst undef) w'):wpList P ops Q (o::rest) a w:=
 wpList_plain hgd λ_ hK=>by
  obtain⟨w',h1,h2,h3⟩:=Abj ht hk hb k v hn
  unfold Oper.wp
  rw[EU ho hm hx hy h1]
  exact hK _ _ (h w' h2 h3)
theorem Ki (hgd:o.guard=none)(m x:Operand)(ho:o.op=.lookup t m x false)(ht:P.underlying t=some (.map kt et))(hk:P.underlying kt=some (.int .i64))(hb:MapB w r es)(hm:a.eval m=.map (some r))(k:Int)(hx:a.eval x=.int .i64 k){z:Value}(hz:(zeroValue et).run P w=.ok z w)
 (h:wpList P ops Q rest (a.put o.dst ((KY k es).getD z)) w):wpList P ops Q (o::rest) a w:=
 UO hgd _ (by simp only[execOp,ho,hm,hx,Sem.run_bind,Abk ht hk hb k hz,Result.andThen_ok,Sem.run_pure]) h
end
end Go.Proofs.YtgnmkiafeplbpaaGreatDoor
