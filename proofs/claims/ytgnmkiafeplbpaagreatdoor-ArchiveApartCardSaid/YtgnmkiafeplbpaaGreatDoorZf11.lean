/- Lemmas for ArAll. -/
import Derived.Test.YtgnmkiafeplbpaaGreatDoorZf1
import Derived.Test.YtgnmkiafeplbpaaGreatDoorZf4
import Derived.Test.YtgnmkiafeplbpaaGreatDoorZf2
import Derived.Test.YtgnmkiafeplbpaaGreatDoorZf7
set_option linter.unusedVariables false
set_option linter.unusedSimpArgs false
set_option maxRecDepth 100000
set_option maxHeartbeats 16000000
namespace Go.Proofs.YtgnmkiafeplbpaaGreatDoor
open Go.RowKit Go.Deep
theorem QT{a b:Int}(h:a=b):Ending.returned (.int .i64 a)=.returned (.int .i64 b):=by rw[h]
theorem AgO (a:Int)(w:World):Calls Tryz.prog 238 #[.int .i64 a] w λe w'=>e=.returned (.bool false)/\w=w':=by
 have h:(a != a)=false:=by simp
 go_enter Tryz.func238,Tryz.ntmps238
 go_wp2
 go_ret
 exact⟨QD (by simp),rfl⟩
theorem US (a b:Int)(w:World):Calls Tryz.prog 195 #[.int .i64 a,.int .i64 b] w λe w'=>e=.returned (.int .i64 (Q3 a b))/\w=w':=by
 go_enter Tryz.func195,Tryz.ntmps195
 go_wp2_with fail
 refine(AgO _ _).mono ?_;rintro e d ⟨rfl,rfl⟩;go_wp2_with fail
 refine(AgO _ _).mono ?_;rintro e d ⟨rfl,rfl⟩;by_cases c:a<b
 ·go_wp2
  go_ret
  exact⟨QT (by unfold Q3;rw[if_pos c]),rfl⟩
 ·by_cases g:b<a
  ·go_wp2
   go_ret
   exact⟨QT (by unfold Q3;rw[if_neg (show ¬a<b by omega),if_pos (show b<a by omega)]),rfl⟩
  ·go_wp2
   go_ret
   exact⟨QT (by unfold Q3;rw[if_neg (show ¬a<b by omega),if_neg (show ¬b<a by omega)]),rfl⟩
theorem VQ{a b:List Int}{k:Nat}{x y:Int}(h:a.take k=b.take k)(hx:a[k]? =some x)(hy:b[k]? =some y)(hc:Q3 x y≠0):Q6 a b=Q3 x y:=by
 have g:a=a.take k++x::a.drop (k+1):=by
  obtain⟨d,e⟩:=Lf.1 hx;rw[<-e, <-LV d,LC]
 have i:b=b.take k++y::b.drop (k+1):=by
  obtain⟨d,e⟩:=Lf.1 hy;rw[<-e, <-LV d,LC]
 rw[g,i,h];generalize b.take k=c;clear h g i hx hy
 induction c with
 |nil=>rw[Lu,Lu,Q6,if_pos hc]
 |cons z c ih=>rw[Lk,Lk,Q6,Y5,if_neg (by simp)];exact ih
theorem Aav:∀{a b:List Int} {k:Nat},a.take k=b.take k->(k=a.length\/k=b.length)->k<=a.length->k<=b.length->Q6 a b=Q3 (a.length:Int) (b.length:Int)
 |[],[],_,_,_,_,_=>by simp[Q6,Q3]
 |[],_::_,_,_,_,_,_=>by simp[Q6,Q3]<;>omega
 |_::_,[],_,_,_,_,_=>by simp[Q6,Q3]<;>omega
 |x::xs,y::ys,0,h,hk,_,_=>by simp at hk
 |x::xs,y::ys,k+1,h,hk,h1,h2=>by
  simp only[LY,List.cons.injEq]at h
  obtain⟨rfl,h⟩:=h
  rw[Q6,Y5,if_neg (by simp),Aav h (by simpa using hk) (by simpa using h1) (by simpa using h2)]
  unfold Q3
  simp only[Le]
  repeat' split
  all_goals omega
theorem AeO (A B:Option Addr)(c d:Nat)(a b:List Int)(w:World)(ha:Rd w A (Qj a))(hb:Rd w B (Qj b))(hla:a.length<=1000000)(hlb:b.length<=1000000):
 Calls Tryz.prog 194 #[.slice A a.length c,.slice B b.length d] w λe w'=>e=.returned (.int .i64 (Q6 a b))/\Below w.heap.size w w':=by
 obtain⟨S,g⟩:∃S,S=(λW=>Rd W A (Qj a)/\Rd W B (Qj b)/\Below w.heap.size w W):=⟨_,rfl⟩;have am:St S:=by rw[g];infer_instance
 have u:Hid (∀W,S W->Rd W A (Qj a)):=by show ∀W,_;rw[g];exact λW h=>h.1
 have v:Hid (∀W,S W->Rd W B (Qj b)):=by show ∀W,_;rw[g];exact λW h=>h.2.1
 have x:Hid (∀W,S W->Below w.heap.size w W):=by show ∀W,_;rw[g];exact λW h=>h.2.2
 have l:S w:=by rw[g];exact⟨ha,hb,Below.refl _ _⟩
 clear g ha hb;obtain⟨m,hm⟩:∃m:Nat,m=Nat.min a.length b.length:=⟨_,rfl⟩
 have s:m<=a.length/\m<=b.length/\(m=a.length\/m=b.length):=by
  have h:m=min a.length b.length:=hm;omega
 clear hm;go_enter Tryz.func194,Tryz.ntmps194
 go_wp2_with fail
 all_goals
  go_loopw [12] (λi wr=>∃k:Nat,i=.int .i64 (k:Int)/\k<=m/\Hid (a.take k=b.take k)/\S wr) (λi _=>m-(intOf i).toNat)
  case atStart=>exact⟨0,by simp,Nat.zero_le _,by simp[Hid],l⟩
  case round=>
   clear l;obtain⟨k,rfl,hk,t,l⟩:=hrel;by_cases ag:k<m
   ·have ai:(k:Int)<(m:Int):=by omega
    obtain⟨e,he⟩:∃e,a[k]? =some e:=⟨_,Ld (by omega)⟩;obtain⟨f,hf⟩:∃f,b[k]? =some f:=⟨_,Ld (by omega)⟩;obtain⟨ad,ac,_⟩:=Q4 (u.out _ l) he;obtain⟨bd,ae,_⟩:=Q4 (v.out _ l) hf;subst ac ae
    have n:Hid (∀W,S W->W.cell? (ad.add k)=some (.int .i64 e)):=λW h=>by
     obtain⟨ab,p,h2⟩:=Q4 (u.out _ h) he;injection p with p;subst p;exact h2
    have o:Hid (∀W,S W->W.cell? (bd.add k)=some (.int .i64 f)):=λW h=>by
     obtain⟨ab,p,h2⟩:=Q4 (v.out _ h) hf;injection p with p;subst p;exact h2
    have y:=Lv he;have z:=Lv hf;have ak:(k:Int)<(a.length:Int):=by omega
    have al:(k:Int)<(b.length:Int):=by omega
    have aj:IntKind.i64.wrap ((k:Int)+1)=(k:Int)+1:=IntWalk.i64_in _ (by omega);clear he hf;go_wp2_with fail
    refine QG S (by kernel_rfl) (by kernel_rfl) (St.drew l) ?_;clear l
    iterate 3 (refine Qe rfl ?_ (λW q=>?_) ?_;rotate_left;(focus(go_simp;exact rfl));simp only[Act.put,Qa,Qb,Qc])
    (refine Qe rfl ?_ (λW q=>?_) ?_;rotate_left;(focus(have c:=n.out W q;go_simp;exact rfl));simp only[Act.put,Qa,Qb,Qc])
    iterate 3 (refine Qe rfl ?_ (λW q=>?_) ?_;rotate_left;(focus(go_simp;exact rfl));simp only[Act.put,Qa,Qb,Qc])
    (refine Qe rfl ?_ (λW q=>?_) ?_;rotate_left;(focus(have c:=o.out W q;go_simp;exact rfl));simp only[Act.put,Qa,Qb,Qc]);(refine QA rfl 195 _ (λW=>by(go_simp;try rfl)) (.int .i64 (Q3 e f)) (λW q=>(US e f W).mono λe w' h=>⟨h.1,by rw[<-h.2];exact Below.refl _ _⟩) ?_;simp only[Act.put,Qa,Qb,Qc])
    (refine Qe rfl ?_ (λW q=>?_) ?_;rotate_left;(focus(go_simp;exact rfl));simp only[Act.put,Qa,Qb,Qc]);refine QE λW l=>?_
    by_cases j:Q3 e f=0
    ·have ah:(Q3 e f != 0)=false:=by simp[j]
     have aa:Hid (a.take (k+1)=b.take (k+1)):=by
      show _=_;rw[L5,L5,t.out,y.out,z.out,cmpI_eq.1 j]
     clear n o y z t j;go_wp2_with fail
     go_roundw
     case rel=>exact⟨k+1,by go_num,by omega,aa,l⟩
     case measure=>simp[intOf];omega
    ·have ah:(Q3 e f != 0)=true:=by simpa using j
     have Hc:=Lv (VQ t.out y.out z.out j);clear n o y z t j;go_wp2_with fail
     go_ret
     exact⟨QT Hc.out.symm,x.out _ l⟩
   ·obtain rfl:k=m:=by omega
    have Hc:=Lv (Aav t.out s.2.2 s.1 s.2.1);(first|have af:¬((k:Int)<(b.length:Int)):=by omega|have af:¬((k:Int)<(a.length:Int)):=by omega)
    clear ag hk t;go_wp2_with fail
    refine(US _ _ _).mono ?_;rintro e w1 ⟨rfl,rfl⟩;go_wp2_with fail
    go_ret
    exact⟨QT Hc.out.symm,x.out _ l⟩
theorem Agd (A B:Option Addr)(c d:Nat)(a b:List Int)(w:World)(ha:Rd w A (Qj a))(hb:Rd w B (Qj b))(hla:a.length<=1000000)(hlb:b.length<=1000000):
 Calls Tryz.prog 171 #[.slice A a.length c,.slice B b.length d] w λe w'=>e=.returned (.int .i64 (Q6 a b))/\Below w.heap.size w w':=by
 obtain⟨S,l⟩:∃S,S=(λW=>Rd W A (Qj a)/\Rd W B (Qj b)/\Below w.heap.size w W):=⟨_,rfl⟩;have ap:St S:=by rw[l];infer_instance
 have aa:Hid (∀W,S W->Rd W A (Qj a)):=by show ∀W,_;rw[l];exact λW h=>h.1
 have ab:Hid (∀W,S W->Rd W B (Qj b)):=by show ∀W,_;rw[l];exact λW h=>h.2.1
 have q:Hid (∀W,S W->Below w.heap.size w W):=by show ∀W,_;rw[l];exact λW h=>h.2.2
 have g:S w:=by rw[l];exact⟨ha,hb,Below.refl _ _⟩
 clear l ha hb;go_enter Tryz.func171,Tryz.ntmps171
 go_wp2_with fail
 go_loopw [5] (λi wr=>∃k:Nat,i=.int .i64 (k:Int)/\k<=a.length/\k<=b.length/\Hid (a.take k=b.take k)/\S wr) (λi _=>a.length-(intOf i).toNat)
 case atStart=>exact⟨0,by simp,Nat.zero_le _,Nat.zero_le _,by simp[Hid],g⟩
 case round=>
  clear g;obtain⟨k,rfl,ai,aj,v,g⟩:=hrel;by_cases t:k<a.length/\k<b.length
  ·obtain⟨am,an⟩:=t;obtain⟨e,he⟩:∃e,a[k]? =some e:=⟨_,Ld (by omega)⟩;obtain⟨f,hf⟩:∃f,b[k]? =some f:=⟨_,Ld (by omega)⟩;obtain⟨ad,ag,_⟩:=Q4 (aa.out _ g) he;obtain⟨bd,ah,_⟩:=Q4 (ab.out _ g) hf;subst ag ah
   have o:Hid (∀W,S W->W.cell? (ad.add k)=some (.int .i64 e)):=λW h=>by
    obtain⟨af,x,h2⟩:=Q4 (aa.out _ h) he;injection x with x;subst x;exact h2
   have p:Hid (∀W,S W->W.cell? (bd.add k)=some (.int .i64 f)):=λW h=>by
    obtain⟨af,x,h2⟩:=Q4 (ab.out _ h) hf;injection x with x;subst x;exact h2
   have y:=Lv he;have z:=Lv hf;have s:(k:Int)<(a.length:Int):=by omega
   have ao:(k:Int)<(b.length:Int):=by omega
   have ak:IntKind.i64.wrap ((k:Int)+1)=(k:Int)+1:=IntWalk.i64_in _ (by omega);clear he hf;go_wp2_with fail
   refine QG S (by kernel_rfl) (by kernel_rfl) (St.drew g) ?_;clear g
   iterate 3 (refine Qe rfl ?_ (λW m=>?_) ?_;rotate_left;(focus(go_simp;exact rfl));simp only[Act.put,Qa,Qb,Qc])
   (refine Qe rfl ?_ (λW m=>?_) ?_;rotate_left;(focus(have c:=o.out W m;go_simp;exact rfl));simp only[Act.put,Qa,Qb,Qc])
   iterate 3 (refine Qe rfl ?_ (λW m=>?_) ?_;rotate_left;(focus(go_simp;exact rfl));simp only[Act.put,Qa,Qb,Qc])
   (refine Qe rfl ?_ (λW m=>?_) ?_;rotate_left;(focus(have c:=p.out W m;go_simp;exact rfl));simp only[Act.put,Qa,Qb,Qc]);(refine Qe rfl ?_ (λW m=>?_) ?_;rotate_left;(focus(go_simp;exact rfl));simp only[Act.put,Qa,Qb,Qc]);refine QE λW g=>?_
   by_cases x:e<f
   ·have j:Q3 e f= -1:=by unfold Q3;rw[if_pos (by omega)]
    have n:=Lv (VQ v.out y.out z.out (by omega));rw[j]at n;clear o p y z v j;go_wp2_with fail
    go_ret
    exact⟨QT n.out.symm,q.out _ g⟩
   have al:f<=e:=by omega
   go_wp2_with fail
   refine QG S (by kernel_rfl) (by kernel_rfl) (St.drew g) ?_;clear g
   iterate 3 (refine Qe rfl ?_ (λW m=>?_) ?_;rotate_left;(focus(go_simp;exact rfl));simp only[Act.put,Qa,Qb,Qc])
   (refine Qe rfl ?_ (λW m=>?_) ?_;rotate_left;(focus(have c:=o.out W m;go_simp;exact rfl));simp only[Act.put,Qa,Qb,Qc])
   iterate 3 (refine Qe rfl ?_ (λW m=>?_) ?_;rotate_left;(focus(go_simp;exact rfl));simp only[Act.put,Qa,Qb,Qc])
   (refine Qe rfl ?_ (λW m=>?_) ?_;rotate_left;(focus(have c:=p.out W m;go_simp;exact rfl));simp only[Act.put,Qa,Qb,Qc]);(refine Qe rfl ?_ (λW m=>?_) ?_;rotate_left;(focus(go_simp;exact rfl));simp only[Act.put,Qa,Qb,Qc]);refine QE λW g=>?_
   by_cases h2:f<e
   ·have j:Q3 e f=1:=by unfold Q3;rw[if_neg (by omega),if_pos (by omega)]
    have n:=Lv (VQ v.out y.out z.out (by omega));rw[j]at n;clear o p y z v j;go_wp2_with fail
    go_ret
    exact⟨QT n.out.symm,q.out _ g⟩
   have ae:Hid (a.take (k+1)=b.take (k+1)):=by
    show _=_;rw[L5,L5,v.out,y.out,z.out,show e=f by omega]
   clear o p y z v;go_wp2_with fail
   go_roundw
   case rel=>exact⟨k+1,by go_num,by omega,by omega,ae,g⟩
   case measure=>simp[intOf];omega
  ·have u:k=a.length\/k=b.length:=by omega
   have n:=Lv (Aav v.out u ai aj);clear v;have s:¬((k:Int)<(a.length:Int))\/¬((k:Int)<(b.length:Int)):=by omega
   have ac:∀W,S W->True:=λ_ _=>trivial
   clear ac;by_cases g1:(k:Int)<(a.length:Int)
   ·have g2:¬((k:Int)<(b.length:Int)):=by omega
    have g3:¬((a.length:Int)<(b.length:Int)):=by omega
    have g4:(b.length:Int)<(a.length:Int):=by omega
    have j:Q3 (a.length:Int) (b.length:Int)=1:=by unfold Q3;rw[if_neg (by omega),if_pos (by omega)]
    rw[j]at n;clear t u s j;go_wp2_with fail
    go_ret
    exact⟨QT n.out.symm,q.out _ g⟩
   ·by_cases g3:(a.length:Int)<(b.length:Int)
    ·have j:Q3 (a.length:Int) (b.length:Int)= -1:=by unfold Q3;rw[if_pos (by omega)]
     rw[j]at n;clear t u s j;go_wp2_with fail
     go_ret
     exact⟨QT n.out.symm,q.out _ g⟩
    ·have g4:¬((b.length:Int)<(a.length:Int)):=by omega
     have j:Q3 (a.length:Int) (b.length:Int)=0:=by unfold Q3;rw[if_neg (by omega),if_neg (by omega)]
     rw[j]at n;clear t u s j;go_wp2_with fail
     go_ret
     exact⟨QT n.out.symm,q.out _ g⟩
theorem Aeu (a b:Int)(w:World):Calls Tryz.prog 172 #[.int .i64 a,.int .i64 b] w λe w'=>e=.returned (.int .i64 (Q3 a b))/\w=w':=by
 by_cases c:a<b
 ·go_enter Tryz.func172,Tryz.ntmps172
  go_wp2
  go_ret
  exact⟨QT (by unfold Q3;rw[if_pos (by omega)]),rfl⟩
 ·by_cases d:b<a
  ·go_enter Tryz.func172,Tryz.ntmps172
   go_wp2
   go_ret
   exact⟨QT (by unfold Q3;rw[if_neg (by omega),if_pos (by omega)]),rfl⟩
  ·go_enter Tryz.func172,Tryz.ntmps172
   go_wp2
   go_ret
   exact⟨QT (by unfold Q3;rw[if_neg (by omega),if_neg (by omega)]),rfl⟩
def orL:List Int->Int
 |[]=>0
 |x::l=>if x=0 then orL l else x
theorem AjP{a:List Int}{k:Nat}{e:Int}(h:a[k]? =some e):orL (a.drop k)=if e=0 then orL (a.drop (k+1))else e:=by
 obtain⟨b,rfl⟩:=Lf.1 h;rw[LV b,orL]
theorem Ahs (A:Option Addr)(c:Nat)(a:List Int)(w:World)(ha:Rd w A (Qj a))(hla:a.length<=1000000):
 Calls Tryz.prog 193 #[.slice A a.length c] w λe w'=>e=.returned (.int .i64 (orL a))/\Below w.heap.size w w':=by
 obtain⟨S,d⟩:∃S,S=(λW=>Rd W A (Qj a)/\Below w.heap.size w W):=⟨_,rfl⟩;have ae:St S:=by rw[d];infer_instance
 have n:Hid (∀W,S W->Rd W A (Qj a)):=by show ∀W,_;rw[d];exact λW h=>h.1
 have o:Hid (∀W,S W->Below w.heap.size w W):=by show ∀W,_;rw[d];exact λW h=>h.2
 have g:S w:=by rw[d];exact⟨ha,Below.refl _ _⟩
 clear d ha;go_enter Tryz.func193,Tryz.ntmps193
 go_wp2_with fail
 go_loopw [8] (λi wr=>∃k:Nat,i=.int .i64 (k:Int)/\k<=a.length/\Hid (orL a=orL (a.drop k))/\S wr) (λi _=>a.length-(intOf i).toNat)
 case atStart=>exact⟨0,by simp,Nat.zero_le _,by simp[Hid],g⟩
 case round=>
  clear g;obtain⟨k,rfl,hk,m,g⟩:=hrel;by_cases u:k<a.length
  ·obtain⟨e,q⟩:∃e,a[k]? =some e:=⟨_,Ld (by omega)⟩;obtain⟨y,t,_⟩:=Q4 (n.out _ g) q;subst t
   have j:Hid (∀W,S W->W.cell? (y.add k)=some (.int .i64 e)):=λW h=>by
    obtain⟨z,s,h2⟩:=Q4 (n.out _ h) q;injection s with s;subst s;exact h2
   have p:=Lv (AjP q);have ac:(k:Int)<(a.length:Int):=by omega
   have aa:IntKind.i64.wrap ((k:Int)+1)=(k:Int)+1:=IntWalk.i64_in _ (by omega);clear q;have ab:=j.out _ g;by_cases b:e=0
   ·have v:(e != 0)=false:=by simp[b]
    have l:Hid (orL a=orL (a.drop (k+1))):=by
     show _=_;rw[m.out,p.out,if_pos b]
    clear j m p b;go_wp2_with fail
    go_roundw
    case rel=>exact⟨k+1,by go_num,by omega,l,g⟩
    case measure=>simp[intOf];omega
   ·have v:(e != 0)=true:=by simpa using b
    have l:Hid (orL a=e):=by
     show _=_;rw[m.out,p.out,if_neg b]
    clear j m p b;go_wp2_with fail
    go_ret
    exact⟨QT l.out.symm,o.out _ g⟩
  ·obtain rfl:k=a.length:=by omega
   have x:Hid (orL a=0):=by
    show _=_;rw[m.out,List.drop_length,orL]
   clear u hk m;go_wp2_with fail
   go_ret
   exact⟨QT x.out.symm,o.out _ g⟩
structure DlV where
 A:Option Addr
 cap:Nat
 d:Dl
def DlV.cells (x:DlV):Array Value:=#[.slice x.A x.d.path.length x.cap,.int .i64 x.d.op,.int .i64 x.d.n]
structure DlOk (W:World)(x:DlV):Prop where
 rd:Rd W x.A (Qj x.d.path)
 len:x.d.path.length<=1000000
theorem Ah7 (a b c:Int):orL [a,b,c]=orI a (orI b c):=by
 unfold orL orL orL orL orI
 repeat' split
 all_goals first|rfl|omega
theorem VT (x y:DlV)(w:World)(hx:DlOk w x)(hy:DlOk w y):
 Calls Tryz.prog 128 #[.agg x.cells,.agg y.cells] w λe w'=>e=.returned (.int .i64 (Zw x.d y.d))/\Below w.heap.size w w':=by
 obtain⟨A,s,⟨a,l,p⟩⟩:=x;obtain⟨B,t,⟨b,m,q⟩⟩:=y;obtain⟨ha,z⟩:=hx;obtain⟨hb,aa⟩:=hy;simp only at ha z hb aa;unfold DlV.cells;show Calls _ _ #[.agg #[.slice A a.length s,.int .i64 l,.int .i64 p],.agg #[.slice B b.length t,.int .i64 m,.int .i64 q]] _ _;have Ha:=Lv ha;have Hb:=Lv hb;clear ha hb;go_enter Tryz.func128,Tryz.ntmps128
 go_wp2_with (refine Qx _ _ rfl ?_)
 refine Stop.to ?_;refine Qf rfl 91 _ rfl #[.slice A a.length s,.int .i64 l,.int .i64 p] rfl ?_;intro G Gw Gh Gr Gb;go_wp2_with (refine Qx _ _ rfl ?_)
 refine Stop.to ?_;refine Qf rfl 91 _ rfl #[.slice B b.length t,.int .i64 m,.int .i64 q] rfl ?_;intro J Jw Jh Jr Jb;have rG:=Gr.below Jb (Lg Gr.lt Jh);have b1:=(Below.refl w.heap.size w).trans (Gb.mono Gh);have b2:=b1.trans ((Jb.mono Jh).mono b1.size);obtain⟨S,n⟩:∃S,S=(λW=>(Row W G 91 #[.slice A a.length s,.int .i64 l,.int .i64 p]/\Row W J 91 #[.slice B b.length t,.int .i64 m,.int .i64 q])/\(Rd W A (Qj a)/\Rd W B (Qj b))/\Below w.heap.size w W):=⟨_,rfl⟩;have ab:St S:=by rw[n];infer_instance
 have T0:Hid (∀W,S W->Row W G 91 #[.slice A a.length s,.int .i64 l,.int .i64 p]):=by show ∀W,_;rw[n];exact λW h=>h.1.1
 have T1:Hid (∀W,S W->Row W J 91 #[.slice B b.length t,.int .i64 m,.int .i64 q]):=by show ∀W,_;rw[n];exact λW h=>h.1.2
 have T2:Hid (∀W,S W->Rd W A (Qj a)):=by show ∀W,_;rw[n];exact λW h=>h.2.1.1
 have T3:Hid (∀W,S W->Rd W B (Qj b)):=by show ∀W,_;rw[n];exact λW h=>h.2.1.2
 have T4:Hid (∀W,S W->Below w.heap.size w W):=by show ∀W,_;rw[n];exact λW h=>h.2.2
 have hS:S Jw:=by rw[n];exact⟨⟨rG,Jr⟩,⟨Rd.go Ha.out b2,Rd.go Hb.out b2⟩,b2⟩
 clear n rG Gr Jr Gb Jb b1 b2 Gh Jh Ha Hb;go_wp2_with fail
 refine Ee S 15 (by kernel_rfl) (by kernel_rfl) (St.drew hS) ?_;clear hS;simp only[LY,List.take_zero,Nk,List.drop_zero];(refine Qe rfl ?_ (λW g=>?_) ?_;rotate_left;(focus(go_simp;exact rfl));simp only[Act.put,Qa,Qb,Qc]);(refine Qe rfl ?_ (λW g=>?_) ?_;rotate_left;(focus(have c:=(T0.out W g).cellv (i:=0) (v:=.slice A a.length s) rfl;go_simp;exact rfl));simp only[Act.put,Qa,Qb,Qc]);(refine Qe rfl ?_ (λW g=>?_) ?_;rotate_left;(focus(go_simp;exact rfl));simp only[Act.put,Qa,Qb,Qc]);(refine Qe rfl ?_ (λW g=>?_) ?_;rotate_left;(focus(have c:=(T1.out W g).cellv (i:=0) (v:=.slice B b.length t) rfl;go_simp;exact rfl));simp only[Act.put,Qa,Qb,Qc]);(refine QA rfl 194 _ (λW=>by(go_simp;try rfl)) (.int .i64 (Q6 a b)) (λW g=>AeO A B s t a b W (T2.out W g) (T3.out W g) z aa) ?_;simp only[Act.put,Qa,Qb,Qc])
 (refine Qe rfl ?_ (λW g=>?_) ?_;rotate_left;(focus(go_simp;exact rfl));simp only[Act.put,Qa,Qb,Qc]);(refine Qe rfl ?_ (λW g=>?_) ?_;rotate_left;(focus(have c:=(T0.out W g).cellv (i:=1) (v:=.int .i64 l) rfl;go_simp;exact rfl));simp only[Act.put,Qa,Qb,Qc]);(refine Qe rfl ?_ (λW g=>?_) ?_;rotate_left;(focus(go_simp;exact rfl));simp only[Act.put,Qa,Qb,Qc]);(refine Qe rfl ?_ (λW g=>?_) ?_;rotate_left;(focus(have c:=(T1.out W g).cellv (i:=1) (v:=.int .i64 m) rfl;go_simp;exact rfl));simp only[Act.put,Qa,Qb,Qc]);(refine QA rfl 195 _ (λW=>by(go_simp;try rfl)) (.int .i64 (Q3 l m)) (λW g=>(US l m W).mono λe w' h=>⟨h.1,by rw[<-h.2];exact Below.refl _ _⟩) ?_;simp only[Act.put,Qa,Qb,Qc])
 (refine Qe rfl ?_ (λW g=>?_) ?_;rotate_left;(focus(go_simp;exact rfl));simp only[Act.put,Qa,Qb,Qc]);(refine Qe rfl ?_ (λW g=>?_) ?_;rotate_left;(focus(have c:=(T0.out W g).cellv (i:=2) (v:=.int .i64 p) rfl;go_simp;exact rfl));simp only[Act.put,Qa,Qb,Qc]);(refine Qe rfl ?_ (λW g=>?_) ?_;rotate_left;(focus(go_simp;exact rfl));simp only[Act.put,Qa,Qb,Qc]);(refine Qe rfl ?_ (λW g=>?_) ?_;rotate_left;(focus(have c:=(T1.out W g).cellv (i:=2) (v:=.int .i64 q) rfl;go_simp;exact rfl));simp only[Act.put,Qa,Qb,Qc]);(refine QA rfl 195 _ (λW=>by(go_simp;try rfl)) (.int .i64 (Q3 p q)) (λW g=>(US p q W).mono λe w' h=>⟨h.1,by rw[<-h.2];exact Below.refl _ _⟩) ?_;simp only[Act.put,Qa,Qb,Qc])
 refine QE λW g=>?_
 go_wp2_with (refine QY _ _ _ rfl ?_)
 refine Stop.to ?_;refine Qw rfl 22 3 _ rfl 3 #[.int .i64 (Q6 a b),.int .i64 (Q3 l m),.int .i64 (Q3 p q)] (λW=>by kernel_rfl) ?_;intro M Mw Mh Mr Mb;have bM:=(T4.out _ g).trans ((Mb.mono Mh).mono (T4.out _ g).size);go_wp2_with fail
 refine(Ahs _ 3 [Q6 a b,Q3 l m,Q3 p q] _ ?_ (by simp)).mono ?_
 ·intro j u o;refine⟨_,rfl,?_⟩;have h0:=Mr.cellv (i:=0) (v:=.int .i64 (Q6 a b)) rfl;have h1:=Mr.cellv (i:=1) (v:=.int .i64 (Q3 l m)) rfl;have h2:=Mr.cellv (i:=2) (v:=.int .i64 (Q3 p q)) rfl
  match j,o with
  |0,o=>injection o with o;subst o;exact h0
  |1,o=>injection o with o;subst o;exact h1
  |2,o=>injection o with o;subst o;exact h2
  |k+3,o=>simp[Qj]at o
 rintro e w1 ⟨rfl,bO⟩;go_wp2_with fail
 go_ret
 exact⟨QT (Ah7 _ _ _),bM.trans (bO.mono bM.size)⟩
theorem DlOk.go{W W':World}{x:DlV}(h:DlOk W x)(b:Below W.heap.size W W'):DlOk W' x:=⟨Rd.go h.rd b,h.len⟩
theorem AfC (x y:DlV)(w:World)(hx:DlOk w x)(hy:DlOk w y):
 Calls Tryz.prog 160 #[.agg x.cells,.agg y.cells] w λe w'=>e=.returned (.bool (decide (Zw x.d y.d=0)))/\Below w.heap.size w w':=by
 have q:=Lv hx.rd;have s:=Lv hy.rd;have m:=hx.len;have n:=hy.len;clear hx hy;go_enter Tryz.func160,Tryz.ntmps160
 go_wp2_with (refine Qx _ _ rfl ?_)
 refine Stop.to ?_;refine Qf rfl 91 _ rfl x.cells rfl ?_;intro G Gw p i o;go_wp2_with (refine Qx _ _ rfl ?_)
 refine Stop.to ?_;refine Qf rfl 91 _ rfl y.cells rfl ?_;intro J v k t j;have u:=i.below j (Lg i.lt k);have l:=(Below.refl w.heap.size w).trans (o.mono p);have c:=l.trans ((j.mono k).mono l.size);obtain⟨S,a⟩:∃S,S=(λW=>(Row W G 91 x.cells/\Row W J 91 y.cells)/\(Rd W x.A (Qj x.d.path)/\Rd W y.A (Qj y.d.path))/\Below w.heap.size w W):=⟨_,rfl⟩;have aa:St S:=by rw[a];infer_instance
 have z:Hid (∀W,S W->Row W G 91 x.cells):=by show ∀W,_;rw[a];exact λW h=>h.1.1
 have T1:Hid (∀W,S W->Row W J 91 y.cells):=by show ∀W,_;rw[a];exact λW h=>h.1.2
 have T2:Hid (∀W,S W->Rd W x.A (Qj x.d.path)):=by show ∀W,_;rw[a];exact λW h=>h.2.1.1
 have T3:Hid (∀W,S W->Rd W y.A (Qj y.d.path)):=by show ∀W,_;rw[a];exact λW h=>h.2.1.2
 have T4:Hid (∀W,S W->Below w.heap.size w W):=by show ∀W,_;rw[a];exact λW h=>h.2.2
 have g:S v:=by rw[a];exact⟨⟨u,t⟩,⟨Rd.go q.out c,Rd.go s.out c⟩,c⟩
 clear a u i t o j l c p k q s;go_wp2_with (refine AkP _ _ rfl ?_)
 refine Stop.to ?_;refine VH S 4 g ?_;clear g;simp only[LY,List.take_zero,Nk,List.drop_zero];(refine ZN rfl 91 _ rfl (G) rfl 91 _ _ (λW b=>z.out W b) Tryz.underlying91 rfl (by kernel_rfl) ?_;simp only[Act.put,Qa,Qb,Qc]);(refine ZN rfl 91 _ rfl (J) rfl 91 _ _ (λW b=>T1.out W b) Tryz.underlying91 rfl (by kernel_rfl) ?_;simp only[Act.put,Qa,Qb,Qc]);(refine QA rfl 128 _ (λW=>by(go_simp;try rfl)) (.int .i64 (Zw x.d y.d)) (λW b=>VT x y W ⟨T2.out W b,m⟩ ⟨T3.out W b,n⟩) ?_;simp only[Act.put,Qa,Qb,Qc])
 (refine Qe rfl ?_ (λW b=>?_) ?_;rotate_left;(focus(go_simp;exact rfl));simp only[Act.put,Qa,Qb,Qc]);refine QE λW g=>?_
 go_wp2_with fail
 go_ret
 exact⟨QD (by by_cases h:Zw x.d y.d=0<;>simp[h]),T4.out _ g⟩
theorem Adr (x y:DlV)(w:World)(hx:DlOk w x)(hy:DlOk w y):
 Calls Tryz.prog 96 #[.agg x.cells,.agg y.cells] w λe w'=>e=.returned (.int .i64 (Zw x.d y.d))/\Below w.heap.size w w':=by
 have Ha:=Lv hx.rd;have Hb:=Lv hy.rd;have ac:=hx.len;have ad:=hy.len;clear hx hy;go_enter Tryz.func96,Tryz.ntmps96
 go_wp2_with (refine Qx _ _ rfl ?_)
 refine Stop.to ?_;refine Qf rfl 91 _ rfl x.cells rfl ?_;intro G Gw Gh o Gb;go_wp2_with (refine Qx _ _ rfl ?_)
 refine Stop.to ?_;refine Qf rfl 91 _ rfl y.cells rfl ?_;intro J Jw q Jr p;have rG:=o.below p (Lg o.lt q);have z:=(Below.refl w.heap.size w).trans (Gb.mono Gh);have m:=z.trans ((p.mono q).mono z.size);obtain⟨S,a⟩:∃S,S=(λW=>(Row W G 91 x.cells/\Row W J 91 y.cells)/\(Rd W x.A (Qj x.d.path)/\Rd W y.A (Qj y.d.path))/\Below w.heap.size w W):=⟨_,rfl⟩;have ae:St S:=by rw[a];infer_instance
 have s:Hid (∀W,S W->Row W G 91 x.cells):=by show ∀W,_;rw[a];exact λW h=>h.1.1
 have t:Hid (∀W,S W->Row W J 91 y.cells):=by show ∀W,_;rw[a];exact λW h=>h.1.2
 have T2:Hid (∀W,S W->Rd W x.A (Qj x.d.path)):=by show ∀W,_;rw[a];exact λW h=>h.2.1.1
 have T3:Hid (∀W,S W->Rd W y.A (Qj y.d.path)):=by show ∀W,_;rw[a];exact λW h=>h.2.1.2
 have u:Hid (∀W,S W->Below w.heap.size w W):=by show ∀W,_;rw[a];exact λW h=>h.2.2
 have b:S Jw:=by rw[a];exact⟨⟨rG,Jr⟩,⟨Rd.go Ha.out m,Rd.go Hb.out m⟩,m⟩
 clear a rG o Jr Gb p z m Gh q Ha Hb;go_wp2_with (refine Amh ?_)
 refine Stop.to ?_;refine VH S 6 b ?_;clear b;simp only[LY,Nk,List.drop_zero,List.take_nil];(refine Qe rfl ?_ (λW g=>?_) ?_;rotate_left;(focus(go_simp;exact rfl));simp only[Act.put,Qa,Qb,Qc]);(refine Qe rfl ?_ (λW g=>?_) ?_;rotate_left;(focus(have c:=(s.out W g).cellv (i:=0) (v:=.slice x.A x.d.path.length x.cap) rfl;go_simp;exact rfl));simp only[Act.put,Qa,Qb,Qc]);(refine Qe rfl ?_ (λW g=>?_) ?_;rotate_left;(focus(go_simp;exact rfl));simp only[Act.put,Qa,Qb,Qc]);(refine Qe rfl ?_ (λW g=>?_) ?_;rotate_left;(focus(have c:=(t.out W g).cellv (i:=0) (v:=.slice y.A y.d.path.length y.cap) rfl;go_simp;exact rfl));simp only[Act.put,Qa,Qb,Qc]);(refine QA rfl 171 _ (λW=>by(go_simp;try rfl)) (.int .i64 (Q6 x.d.path y.d.path)) (λW g=>Agd x.A y.A x.cap y.cap _ _ W (T2.out W g) (T3.out W g) ac ad) ?_;simp only[Act.put,Qa,Qb,Qc])
 (refine Qe rfl ?_ (λW g=>?_) ?_;rotate_left;(focus(go_simp;exact rfl));simp only[Act.put,Qa,Qb,Qc]);refine QE λW b=>?_
 have c1:=(s.out _ b).cellv (i:=1) (v:=.int .i64 x.d.op) rfl;have c2:=(s.out _ b).cellv (i:=2) (v:=.int .i64 x.d.n) rfl;have d1:=(t.out _ b).cellv (i:=1) (v:=.int .i64 y.d.op) rfl;have d2:=(t.out _ b).cellv (i:=2) (v:=.int .i64 y.d.n) rfl;by_cases j:Q6 x.d.path y.d.path=0
 ·have aa:(Q6 x.d.path y.d.path != 0)=false:=by simp[j]
  by_cases k:x.d.op=y.d.op
  ·have ab:(x.d.op != y.d.op)=false:=by simp[k]
   have l:Q3 x.d.n y.d.n=Zw x.d y.d:=by unfold Zw orI;rw[j,if_neg (by simp),cmpI_eq.2 k,if_neg (by simp)]
   clear j k;go_wp2_with fail
   refine(Aeu _ _ _).mono ?_;rintro e w1 ⟨rfl,rfl⟩;go_wp2_with fail
   go_ret
   exact⟨QT (by first|exact l|rfl),u.out _ b⟩
  ·have ab:(x.d.op != y.d.op)=true:=by simpa using k
   have l:Q3 x.d.op y.d.op=Zw x.d y.d:=by unfold Zw orI;rw[j,if_neg (by simp),if_pos (λh=>k (cmpI_eq.1 h))]
   clear j k;go_wp2_with fail
   refine(Aeu _ _ _).mono ?_;rintro e w1 ⟨rfl,rfl⟩;go_wp2_with fail
   go_ret
   exact⟨QT (by first|exact l|rfl),u.out _ b⟩
 ·have aa:(Q6 x.d.path y.d.path != 0)=true:=by simpa using j
  have l:Q6 x.d.path y.d.path=Zw x.d y.d:=by unfold Zw orI;rw[if_pos j]
  clear j;go_wp2_with fail
  go_ret
  exact⟨QT l,u.out _ b⟩
def Sc.cells (s:Sc):Array Value:=#[.int .i64 s.alive,.int .i64 s.killed,.int .i64 s.timeout]
theorem Ae3 (w:World):(zeroValue 186).run Tryz.prog w=.ok (.agg #[.int .i64 0,.int .i64 0,.int .i64 0]) w:=by kernel_rfl
theorem Yo (w:World):(zeroValue 29).run Tryz.prog w=.ok (.agg #[.int .i64 0,.int .i64 0,.int .i64 0]) w:=by kernel_rfl
theorem Agg (s:Sc)(w:World):Calls Tryz.prog 140 #[.agg s.cells] w λe w'=>e=.returned (.agg s.cells)/\Below w.heap.size w w':=by
 have p:=Yo;go_enter Tryz.func140,Tryz.ntmps140
 go_wp2_with (refine Qx _ _ rfl ?_)
 refine Stop.to ?_;refine Qf rfl 186 _ rfl s.cells rfl ?_;intro G q j c h;go_wp2_with (refine Qs _ rfl ?_)
 refine Stop.to ?_;refine Qi rfl 29 rfl _ _ (p _) rfl ?_;intro J t a k d;have g:=c.below d (Lg c.lt a);have b:=(Below.refl w.heap.size w).trans (h.mono j);have l:=b.trans ((d.mono a).mono b.size);have m:w.heap.size<=J:=Lj b.size a;have x:=g.cellv (i:=0) (v:=.int .i64 s.alive) rfl;have y:=g.cellv (i:=1) (v:=.int .i64 s.killed) rfl;have z:=g.cellv (i:=2) (v:=.int .i64 s.timeout) rfl;clear c h d b j a;go_wp2_with (refine Qk _ _ _ rfl ?_)
 refine Stop.to ?_;refine Qh rfl 29 _ _ rfl J s.cells rfl rfl 29 _ k (by kernel_rfl) rfl (by simp[Value.oneCell',Sc.cells]) ?_;intro u o n;go_wp2_with fail
 refine bodyPost_ret (results_cell_row Tryz.results140 _ _ J 29 _ (0,0) _ rfl o Tryz.underlying29 rfl (by kernel_rfl)) rfl ?_;exact⟨rfl,l.trans (n.below m)⟩
end Go.Proofs.YtgnmkiafeplbpaaGreatDoor
