/- Lemmas for ArAll. -/
import Derived.Test.YtgnmkiafeplbpaaGreatDoorZf1
import Derived.Test.YtgnmkiafeplbpaaGreatDoorZf37
set_option linter.unusedVariables false
set_option linter.unusedSimpArgs false
set_option maxRecDepth 100000
set_option maxHeartbeats 16000000
namespace Go.Proofs.YtgnmkiafeplbpaaGreatDoor
open Go.RowKit Go.Deep
attribute [local go_sem] Oper.semAt_some
def AbS (s:List UInt8)(width:Nat)(r:Rs):List Int×Rs:=Zu (λ_=>true) (JH s) r width
theorem Ag3 (s:List UInt8)(r:Rs):∀k,∀x∈(Zu (λ_=>true) (JH s) r k).1,InI x
 |0=>λx hx=>by simp[Zu]at hx
 |k+1=>λx hx=>by
  rw[J4]at hx
  rcases LG.1 hx with h|h
  ·exact Ag3 s r k x h
  ·rw[L8.1 h];exact E7 s _
theorem Vw{α:Type}(s:List UInt8)(one:Rs->α×Rs)(h1:∀r,r.pl<=s.length->(one r).2.pl<=s.length)(r:Rs)(h:r.pl<=s.length):∀k,(Zu (λ_=>true) one r k).2.pl<=s.length
 |0=>h
 |k+1=>by rw[J4];exact h1 _ (Vw s one h1 r h k)
theorem AlJ (s:List UInt8)(n:Nat)(r:Rs)(h:r.pl<=s.length):(AbS s n r).2.pl<=s.length:=Vw s (JH s) (λ_ h=>Vh h) r h n
theorem IntT.eff{w w':World}{x:IntsV}{g:Nat}{s:List UInt8}{r:Rs}(h:IntT w x)(hg:RdO w g s r)(e:RdEff g w w'):IntT w' x:=
 h.same λa cs _ k=>e.row k (λe2=>by
  rw[e2]at k
  have h1:w.heap[g]? =_:=k
  rw[show w.heap[g]? =_ from hg]at h1
  injection h1 with h1
  injection h1 with _ h1
  exact absurd h1 (by decide))
theorem AjU{w:World}{base n:Nat}{v:Value}{l:List Int}(h:w.ownsRow base 3 1 v n (Qj l))(hl:l.length=n)(hi:∀x∈l,InI x):∃y:IntsV,v=y.val/\y.l=l/\IntT w y:=by
 obtain⟨A,a,rfl,b,e,c,d,_⟩:=JM h;exact⟨⟨A,a,l⟩,by unfold IntsV.val;rw[hl],rfl,⟨by show l.length<=a;omega,c,d,b,hi⟩,K3 h⟩
theorem Aj5 (g C R:Nat)(s:List UInt8)(r:Rs)(n:Nat)(hn:n<=1000)(hp:r.pl<=s.length)(hs:s.length<=900000)(w:World)(h:RdO w g s r)(hC:Row w C 3 #[.int .i64 (n:Int)])(hR:Row w R 189 #[.pointer (some ⟨g,0,none⟩)]):
 Calls Tryz.prog 181 #[.pointer (some ⟨C,0,none⟩),.pointer (some ⟨R,0,none⟩)] w λe w'=>∃v,e=.returned v/\w'.ownsRow w.heap.size 3 1 v n (Qj (AbS s n r).1)/\RdO w' g s (AbS s n r).2/\RdEff g w w':=by
 have a:=Lv (Ad9 g s r n hn hp hs w h);have j:=hC.cellv (i:=0) (v:=.int .i64 (n:Int)) rfl;have k:=hR.cellv (i:=0) (v:=.pointer (some ⟨g,0,none⟩)) rfl;clear hn hp hs h hC hR;go_enter Tryz.func181,Tryz.ntmps181
 go_wp2_with fail
 refine a.out.mono ?_;rintro e l ⟨v,rfl,b,c,d⟩;go_wp2_with fail
 go_ret
 exact⟨_,rfl,b,c,d⟩
structure SuR (s:List UInt8)(g lim:Nat)(w W:World)(v:Value)(p:List (List Int)×Rs)(ys:List IntsV):Prop where
 m:ys.map IntsV.l=p.1
 own:W.ownsRow lim 22 1 v ys.length (ZU ys)
 t:∀y∈ys,IntT W y
 rd:RdO W g s p.2
 eff:RdEff g w W
theorem SuR.step{s:List UInt8}{g lim:Nat}{w W W2 W3 W4:World}{v v8:Value}{p p':List (List Int)×Rs}{ys:List IntsV}{y:IntsV}(h:SuR s g lim w W v p ys)(hl:w.heap.size=lim)(hg:g<lim)(e2:RdEff g W W2)(b3:Below W2.heap.size W2 W3)(hyT:IntT W2 y)(h2:RdO W2 g s p'.2)
 (own4:W4.ownsRow lim 22 1 v8 (ys.length+1) (ZU (ys++[y]))) (hgr:W3.grownBy W4 v.ownBlock) (hp:p'.1=p.1++[y.l]):SuR s g lim w W4 v8 p' (ys++[y]):=by
 have a:=QU (Yi h.own e2 hg) b3;have e:=h2.go b3;refine⟨by rw[LW,h.m,hp];rfl,by rw[La];exact own4,λz i=>?_,Row.grown e hgr (QK a e (by decide)),((h.eff.trans e2).trans (.of_below b3)).own a (by omega) hgr⟩
 have b:IntT W2 z:=by
  rcases LG.1 i with k|k
  ·exact(h.t z k).eff h.rd e2
  ·rw[L8.1 k];exact hyT
 exact b.same λj n _ d=>by
  have c:=d.below b3 d.lt;exact(c.grown hgr (QK a c (by decide))).trans (Eq.refl _)
theorem Aea (g C R:Nat)(s:List UInt8)(r:Rs)(n width:Nat)(hn:n<=1000)(hwd:width<=1000)(hp:r.pl<=s.length)(hs:s.length<=900000)(w:World)(h:RdO w g s r)(hC:Row w C 3 #[.int .i64 (width:Int)])(hR:Row w R 189 #[.pointer (some ⟨g,0,none⟩)]):
 Calls Tryz.prog 180 #[.int .i64 (n:Int),.func (.func 181) #[] #[.pointer (some ⟨C,0,none⟩),.pointer (some ⟨R,0,none⟩)]] w λe w'=>∃v ys,e=.returned v/\SuR s g w.heap.size w w' v (Zu (λ_=>true) (AbS s width) r n) ys:=by
 have ab:=Lv (Vw s (AbS s width) (λr h=>AlJ s width r h) r hp);have Hs:=Lv hs;have ai:=Lv hwd;have an:(n:Int)<=1000:=by omega
 obtain⟨F,hF⟩:∃F,F=Zu (λ_=>true) (AbS s width) r:=⟨_,rfl⟩;have HF:Hid (∀k,F (k+1)=((F k).1++[(AbS s width (F k).2).1],(AbS s width (F k).2).2)):=λk=>by rw[hF];exact J4 _ _ _
 have aa:Hid (∀k,(F k).1.length=k):=λk=>by rw[hF];exact K9 _ _ _
 have H0:Hid (F 0=([],r)):=by rw[hF];rfl
 rw[<-hF]at ab|-;have HR:=Lv h;have Hg:Hid (g<w.heap.size):=h.lt
 have ak:Hid (C≠g):=λe=>by
  rw[e]at hC;have c:w.heap[g]? =_:=hC;rw[show w.heap[g]? =_ from h]at c;injection c with c;injection c with _ c;exact absurd c (by decide)
 have al:Hid (R≠g):=λe=>by
  rw[e]at hR;have c:w.heap[g]? =_:=hR;rw[show w.heap[g]? =_ from h]at c;injection c with c;injection c with _ c;exact absurd c (by decide)
 have HC:=Lv hC;have ah:=Lv hR;clear hF hp hs h hn hC hR hwd;go_enter Tryz.func180,Tryz.ntmps180
 go_wp2_with fail
 go_loopw [5,7] (λa i W=>∃(k:Nat) (ys:List IntsV),i=.int .i64 (k:Int)/\k<=n/\Hid (SuR s g w.heap.size w W a (F k) ys)) (λ_ i _=>n-(intOf i).toNat)
 case atStart=>exact⟨0,[],rfl,Nat.zero_le _,⟨by rw[H0.out];rfl,World.ownsRow_nil _ _ _ _,λx hx=>(by cases hx),by rw[H0.out];exact HR.out,RdEff.refl _ _⟩⟩
 case round=>
  obtain⟨k,ys,rfl,hk,l⟩:=hrel;by_cases aj:k<n
  ·have am:(k:Int)<(n:Int):=by omega
   have j:ys.length=k:=by have:=congrArg List.length l.out.m;rw[L7,aa.out]at this;exact this
   have ae:=Lv j;have Hi:=Lv (Aj5 g C R s (F k).2 width ai.out (ab.out k) Hs.out wr l.out.rd (l.out.eff.row HC.out ak.out) (l.out.eff.row ah.out al.out));clear j;go_wp2_with fail
   refine Hi.out.mono ?_;rintro e W2 ⟨v,rfl,o2,af,e2⟩;obtain⟨y,rfl,j,ag⟩:=AjU o2 (K9 _ _ _) (Ag3 s _ _);have ad:=Lv ag;have p:=Lv j;have ac:=Lv af;have o:=Lv e2;clear Hi o2 af e2 ag j;go_wp2_with (refine QY _ _ _ rfl ?_)
   refine Stop.to ?_;refine Qw rfl 26 1 _ rfl 22 #[y.val] (λW=>by kernel_rfl) ?_;intro M W3 hM rM bM;have b3:=bM.mono hM;have t:=QU (Yi l.out.own o.out Hg.out) b3;obtain⟨v8,W4,d,b,q, -⟩:=Zq (P:=Tryz.prog) 26 22 (.slice none 0 0) 1 24 Tryz.underlying26 Ajy rfl (by decide) (by decide) t (by have:=l.out.eff.size;have:=o.out.size;have:=b3.size;omega) (Z6 (cs:=[y.val]) rM) (m:=1) (cap:=1) rfl (λu hu=>by rw[L8.1 hu];rfl) (by simp) (by have:=ae.out;omega);rw[show ZU ys++[y.val]=ZU (ys++[y]) by simp[ZU]]at b;have HN:Hid (SuR s g w.heap.size w W4 v8 (F (k+1)) (ys++[y])):=l.out.step rfl Hg.out o.out b3 ad.out (by rw[HF.out];exact ac.out) b q (by rw[HF.out,p.out]);have z:=Lv d;have Hv:=Lv ae.out;clear hM rM bM b3 t d b q ad p ac o l;refine Zc rfl _ (QF rfl z.out) ?_;go_wp2_with fail
   go_roundw
   case rel=>exact⟨k+1,ys++[y],by go_num,by omega,HN⟩
   case measure=>simp[intOf];omega
  ·obtain rfl:k=n:=by omega
   clear aj hk;go_wp2_with fail
   go_ret
   exact⟨_,ys,rfl,l.out⟩
end Go.Proofs.YtgnmkiafeplbpaaGreatDoor
