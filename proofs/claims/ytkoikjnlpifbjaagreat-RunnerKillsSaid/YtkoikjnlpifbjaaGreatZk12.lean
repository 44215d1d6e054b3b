/- Lemmas for RunnerKillsP. -/
import Derived.Test.YtkoikjnlpifbjaaGreatZk1
import Derived.Test.YtkoikjnlpifbjaaGreatZk4
import Derived.Test.YtkoikjnlpifbjaaGreatZk5
import Derived.Test.YtkoikjnlpifbjaaGreatZk8
import Derived.Test.YtkoikjnlpifbjaaGreatZk2
import Derived.Test.YtkoikjnlpifbjaaGreatZk7
set_option linter.unusedVariables false
set_option linter.unusedSimpArgs false
set_option maxRecDepth 100000
set_option maxHeartbeats 16000000
namespace Go.Proofs.YtkoikjnlpifbjaaGreat
open Go.RowKit Go.Deep
theorem ZY{a b:Int}(h:a=b):Ending.returned (.int .i64 a)=.returned (.int .i64 b):=by rw[h]
theorem Af7 (a:Int)(w:World):Calls Tryz.prog 126 #[.int .i64 a] w λe w'=>e=.returned (.bool false)/\w=w':=by
 have h:(a != a)=false:=by simp
 go_enter Tryz.func126,Tryz.ntmps126
 go_wp2
 go_ret
 exact⟨Kg (by simp),rfl⟩
theorem Uy (a b:Int)(w:World):Calls Tryz.prog 86 #[.int .i64 a,.int .i64 b] w λe w'=>e=.returned (.int .i64 (ZR a b))/\w=w':=by
 go_enter Tryz.func86,Tryz.ntmps86
 go_wp2_with fail
 refine(Af7 _ _).mono ?_;rintro e d ⟨rfl,rfl⟩;go_wp2_with fail
 refine(Af7 _ _).mono ?_;rintro e d ⟨rfl,rfl⟩;by_cases c:a<b
 ·go_wp2
  go_ret
  exact⟨ZY (by unfold ZR;rw[if_pos c]),rfl⟩
 ·by_cases g:b<a
  ·go_wp2
   go_ret
   exact⟨ZY (by unfold ZR;rw[if_neg (show ¬a<b by omega),if_pos (show b<a by omega)]),rfl⟩
  ·go_wp2
   go_ret
   exact⟨ZY (by unfold ZR;rw[if_neg (show ¬a<b by omega),if_neg (show ¬b<a by omega)]),rfl⟩
theorem Agw{a b:List Int}{k:Nat}{x y:Int}(h:a.take k=b.take k)(hx:a[k]? =some x)(hy:b[k]? =some y)(hc:ZR x y≠0):ZD a b=ZR x y:=by
 have g:a=a.take k++x::a.drop (k+1):=by
  obtain⟨d,e⟩:=La.1 hx;rw[<-e, <-LH d,LF]
 have i:b=b.take k++y::b.drop (k+1):=by
  obtain⟨d,e⟩:=La.1 hy;rw[<-e, <-LH d,LF]
 rw[g,i,h];generalize b.take k=c;clear h g i hx hy
 induction c with
 |nil=>rw[Lm,Lm,ZD,if_pos hc]
 |cons z c ih=>rw[Ll,Ll,ZD,YU,if_neg (by simp)];exact ih
theorem Ac3:∀{a b:List Int} {k:Nat},a.take k=b.take k->(k=a.length\/k=b.length)->k<=a.length->k<=b.length->ZD a b=ZR (a.length:Int) (b.length:Int)
 |[],[],_,_,_,_,_=>by simp[ZD,ZR]
 |[],_::_,_,_,_,_,_=>by simp[ZD,ZR]<;>omega
 |_::_,[],_,_,_,_,_=>by simp[ZD,ZR]<;>omega
 |x::xs,y::ys,0,h,hk,_,_=>by simp at hk
 |x::xs,y::ys,k+1,h,hk,h1,h2=>by
  simp only[L0,N5]at h
  obtain⟨rfl,h⟩:=h
  rw[ZD,YU,if_neg (by simp),Ac3 h (by simpa using hk) (by simpa using h1) (by simpa using h2)]
  unfold ZR
  simp only[Lc]
  repeat' split
  all_goals omega
theorem Ad0 (A B:Option Addr)(c d:Nat)(a b:List Int)(w:World)(ha:Rd w A (Qi a))(hb:Rd w B (Qi b))(hla:a.length<=1000000)(hlb:b.length<=1000000):
 Calls Tryz.prog 85 #[.slice A a.length c,.slice B b.length d] w λe w'=>e=.returned (.int .i64 (ZD a b))/\Below w.heap.size w w':=by
 obtain⟨S,g⟩:∃S,S=(λW=>Rd W A (Qi a)/\Rd W B (Qi b)/\Below w.heap.size w W):=⟨_,rfl⟩;have am:St S:=by rw[g];infer_instance
 have u:Hid (∀W,S W->Rd W A (Qi a)):=by show ∀W,_;rw[g];exact λW h=>h.1
 have v:Hid (∀W,S W->Rd W B (Qi b)):=by show ∀W,_;rw[g];exact λW h=>h.2.1
 have x:Hid (∀W,S W->Below w.heap.size w W):=by show ∀W,_;rw[g];exact λW h=>h.2.2
 have l:S w:=by rw[g];exact⟨ha,hb,Below.refl _ _⟩
 clear g ha hb;obtain⟨m,hm⟩:∃m:Nat,m=Nat.min a.length b.length:=⟨_,rfl⟩
 have s:m<=a.length/\m<=b.length/\(m=a.length\/m=b.length):=by
  have h:m=min a.length b.length:=hm;omega
 clear hm;go_enter Tryz.func85,Tryz.ntmps85
 go_wp2_with fail
 all_goals
  go_loopw [12] (λi wr=>∃k:Nat,i=.int .i64 (k:Int)/\k<=m/\Hid (a.take k=b.take k)/\S wr) (λi _=>m-(intOf i).toNat)
  case atStart=>exact⟨0,by simp,Nat.zero_le _,by simp[Hid],l⟩
  case round=>
   clear l;obtain⟨k,rfl,hk,t,l⟩:=hrel;by_cases ag:k<m
   ·have ai:(k:Int)<(m:Int):=by omega
    obtain⟨e,he⟩:∃e,a[k]? =some e:=⟨_,Lb (by omega)⟩;obtain⟨f,hf⟩:∃f,b[k]? =some f:=⟨_,Lb (by omega)⟩;obtain⟨ad,ac,_⟩:=Zg (u.out _ l) he;obtain⟨bd,ae,_⟩:=Zg (v.out _ l) hf;subst ac ae
    have n:Hid (∀W,S W->W.cell? (ad.add k)=some (.int .i64 e)):=λW h=>by
     obtain⟨ab,p,h2⟩:=Zg (u.out _ h) he;injection p with p;subst p;exact h2
    have o:Hid (∀W,S W->W.cell? (bd.add k)=some (.int .i64 f)):=λW h=>by
     obtain⟨ab,p,h2⟩:=Zg (v.out _ h) hf;injection p with p;subst p;exact h2
    have y:=Lh he;have z:=Lh hf;have ak:(k:Int)<(a.length:Int):=by omega
    have al:(k:Int)<(b.length:Int):=by omega
    have aj:IntKind.i64.wrap ((k:Int)+1)=(k:Int)+1:=IntWalk.i64_in _ (by omega);clear he hf;go_wp2_with fail
    refine JC S (by kernel_rfl) (by kernel_rfl) (St.drew l) ?_;clear l
    iterate 3 (refine Qg rfl ?_ (λW q=>?_) ?_;rotate_left;(focus(go_simp;exact rfl));simp only[Act.put,Qa,Qb,Qc])
    (refine Qg rfl ?_ (λW q=>?_) ?_;rotate_left;(focus(have c:=n.out W q;go_simp;exact rfl));simp only[Act.put,Qa,Qb,Qc])
    iterate 3 (refine Qg rfl ?_ (λW q=>?_) ?_;rotate_left;(focus(go_simp;exact rfl));simp only[Act.put,Qa,Qb,Qc])
    (refine Qg rfl ?_ (λW q=>?_) ?_;rotate_left;(focus(have c:=o.out W q;go_simp;exact rfl));simp only[Act.put,Qa,Qb,Qc]);(refine Q8 rfl 86 _ (λW=>by(go_simp;try rfl)) (.int .i64 (ZR e f)) (λW q=>(Uy e f W).mono λe w' h=>⟨h.1,by rw[<-h.2];exact Below.refl _ _⟩) ?_;simp only[Act.put,Qa,Qb,Qc])
    (refine Qg rfl ?_ (λW q=>?_) ?_;rotate_left;(focus(go_simp;exact rfl));simp only[Act.put,Qa,Qb,Qc]);refine Q4 λW l=>?_
    by_cases j:ZR e f=0
    ·have ah:(ZR e f != 0)=false:=by simp[j]
     have aa:Hid (a.take (k+1)=b.take (k+1)):=by
      show _=_;rw[L9,L9,t.out,y.out,z.out,cmpI_eq.1 j]
     clear n o y z t j;go_wp2_with fail
     go_roundw
     case rel=>exact⟨k+1,by go_num,by omega,aa,l⟩
     case measure=>simp[intOf];omega
    ·have ah:(ZR e f != 0)=true:=by simpa using j
     have Hc:=Lh (Agw t.out y.out z.out j);clear n o y z t j;go_wp2_with fail
     go_ret
     exact⟨ZY Hc.out.symm,x.out _ l⟩
   ·obtain rfl:k=m:=by omega
    have Hc:=Lh (Ac3 t.out s.2.2 s.1 s.2.1);(first|have af:¬((k:Int)<(b.length:Int)):=by omega|have af:¬((k:Int)<(a.length:Int)):=by omega)
    clear ag hk t;go_wp2_with fail
    refine(Uy _ _ _).mono ?_;rintro e w1 ⟨rfl,rfl⟩;go_wp2_with fail
    go_ret
    exact⟨ZY Hc.out.symm,x.out _ l⟩
def orL:List Int->Int
 |[]=>0
 |x::l=>if x=0 then orL l else x
theorem AiD{a:List Int}{k:Nat}{e:Int}(h:a[k]? =some e):orL (a.drop k)=if e=0 then orL (a.drop (k+1))else e:=by
 obtain⟨c,rfl⟩:=La.1 h;rw[LH c,orL]
theorem Agx (A:Option Addr)(c:Nat)(a:List Int)(w:World)(ha:Rd w A (Qi a))(hla:a.length<=1000000):
 Calls Tryz.prog 84 #[.slice A a.length c] w λe w'=>e=.returned (.int .i64 (orL a))/\Below w.heap.size w w':=by
 obtain⟨S,g⟩:∃S,S=(λW=>Rd W A (Qi a)/\Below w.heap.size w W):=⟨_,rfl⟩;have af:St S:=by rw[g];infer_instance
 have o:Hid (∀W,S W->Rd W A (Qi a)):=by show ∀W,_;rw[g];exact λW h=>h.1
 have p:Hid (∀W,S W->Below w.heap.size w W):=by show ∀W,_;rw[g];exact λW h=>h.2
 have j:S w:=by rw[g];exact⟨ha,Below.refl _ _⟩
 clear g ha;go_enter Tryz.func84,Tryz.ntmps84
 go_wp2_with fail
 go_loopw [8] (λi wr=>∃k:Nat,i=.int .i64 (k:Int)/\k<=a.length/\Hid (orL a=orL (a.drop k))/\S wr) (λi _=>a.length-(intOf i).toNat)
 case atStart=>exact⟨0,by simp,Nat.zero_le _,by simp[Hid],j⟩
 case round=>
  clear j;obtain⟨k,rfl,hk,n,j⟩:=hrel;by_cases v:k<a.length
  ·obtain⟨e,s⟩:∃e,a[k]? =some e:=⟨_,Lb (by omega)⟩;obtain⟨z,u,_⟩:=Zg (o.out _ j) s;subst u
   have l:Hid (∀W,S W->W.cell? (z.add k)=some (.int .i64 e)):=λW h=>by
    obtain⟨aa,t,h2⟩:=Zg (o.out _ h) s;injection t with t;subst t;exact h2
   have q:=Lh (AiD s);have ae:(k:Int)<(a.length:Int):=by omega
   have ab:IntKind.i64.wrap ((k:Int)+1)=(k:Int)+1:=IntWalk.i64_in _ (by omega);clear s;have ac:=l.out _ j;by_cases d:e=0
   ·have x:(e != 0)=false:=by simp[d]
    have m:Hid (orL a=orL (a.drop (k+1))):=by
     show _=_;rw[n.out,q.out,if_pos d]
    clear l n q d;go_wp2_with fail
    go_roundw
    case rel=>exact⟨k+1,by go_num,by omega,m,j⟩
    case measure=>simp[intOf];omega
   ·have x:(e != 0)=true:=by simpa using d
    have m:Hid (orL a=e):=by
     show _=_;rw[n.out,q.out,if_neg d]
    clear l n q d;go_wp2_with fail
    go_ret
    exact⟨ZY m.out.symm,p.out _ j⟩
  ·obtain rfl:k=a.length:=by omega
   have y:Hid (orL a=0):=by
    show _=_;rw[n.out,List.drop_length,orL]
   clear v hk n;go_wp2_with fail
   go_ret
   exact⟨ZY y.out.symm,p.out _ j⟩
structure DlV where
 A:Option Addr
 cap:Nat
 d:Dl
def DlV.cells (x:DlV):Array Value:=#[.slice x.A x.d.path.length x.cap,.int .i64 x.d.op,.int .i64 x.d.n]
structure DlOk (W:World)(x:DlV):Prop where
 rd:Rd W x.A (Qi x.d.path)
 len:x.d.path.length<=1000000
theorem Ag5 (a b c:Int):orL [a,b,c]=orI a (orI b c):=by
 unfold orL orL orL orL orI
 repeat' split
 all_goals first|rfl|omega
theorem AgC (x y:DlV)(w:World)(hx:DlOk w x)(hy:DlOk w y):
 Calls Tryz.prog 55 #[.agg x.cells,.agg y.cells] w λe w'=>e=.returned (.int .i64 (KU x.d y.d))/\Below w.heap.size w w':=by
 obtain⟨A,s,⟨a,l,p⟩⟩:=x;obtain⟨B,t,⟨b,m,q⟩⟩:=y;obtain⟨ha,z⟩:=hx;obtain⟨hb,aa⟩:=hy;simp only at ha z hb aa;unfold DlV.cells;show Calls _ _ #[.agg #[.slice A a.length s,.int .i64 l,.int .i64 p],.agg #[.slice B b.length t,.int .i64 m,.int .i64 q]] _ _;have Ha:=Lh ha;have Hb:=Lh hb;clear ha hb;go_enter Tryz.func55,Tryz.ntmps55
 go_wp2_with (refine Qq _ _ rfl ?_)
 refine Stop.to ?_;refine Qe rfl 50 _ rfl #[.slice A a.length s,.int .i64 l,.int .i64 p] rfl ?_;intro G Gw Gh Gr Gb;go_wp2_with (refine Qq _ _ rfl ?_)
 refine Stop.to ?_;refine Qe rfl 50 _ rfl #[.slice B b.length t,.int .i64 m,.int .i64 q] rfl ?_;intro J Jw Jh Jr Jb;have rG:=Gr.below Jb (Lg Gr.lt Jh);have b1:=(Below.refl w.heap.size w).trans (Gb.mono Gh);have b2:=b1.trans ((Jb.mono Jh).mono b1.size);obtain⟨S,n⟩:∃S,S=(λW=>(Row W G 50 #[.slice A a.length s,.int .i64 l,.int .i64 p]/\Row W J 50 #[.slice B b.length t,.int .i64 m,.int .i64 q])/\(Rd W A (Qi a)/\Rd W B (Qi b))/\Below w.heap.size w W):=⟨_,rfl⟩;have ab:St S:=by rw[n];infer_instance
 have T0:Hid (∀W,S W->Row W G 50 #[.slice A a.length s,.int .i64 l,.int .i64 p]):=by show ∀W,_;rw[n];exact λW h=>h.1.1
 have T1:Hid (∀W,S W->Row W J 50 #[.slice B b.length t,.int .i64 m,.int .i64 q]):=by show ∀W,_;rw[n];exact λW h=>h.1.2
 have T2:Hid (∀W,S W->Rd W A (Qi a)):=by show ∀W,_;rw[n];exact λW h=>h.2.1.1
 have T3:Hid (∀W,S W->Rd W B (Qi b)):=by show ∀W,_;rw[n];exact λW h=>h.2.1.2
 have T4:Hid (∀W,S W->Below w.heap.size w W):=by show ∀W,_;rw[n];exact λW h=>h.2.2
 have hS:S Jw:=by rw[n];exact⟨⟨rG,Jr⟩,⟨Rd.go Ha.out b2,Rd.go Hb.out b2⟩,b2⟩
 clear n rG Gr Jr Gb Jb b1 b2 Gh Jh Ha Hb;go_wp2_with fail
 refine ZG S 15 (by kernel_rfl) (by kernel_rfl) (St.drew hS) ?_;clear hS;simp only[L0,LE,Lz,LA];(refine Qg rfl ?_ (λW g=>?_) ?_;rotate_left;(focus(go_simp;exact rfl));simp only[Act.put,Qa,Qb,Qc]);(refine Qg rfl ?_ (λW g=>?_) ?_;rotate_left;(focus(have c:=(T0.out W g).cellv (i:=0) (v:=.slice A a.length s) rfl;go_simp;exact rfl));simp only[Act.put,Qa,Qb,Qc]);(refine Qg rfl ?_ (λW g=>?_) ?_;rotate_left;(focus(go_simp;exact rfl));simp only[Act.put,Qa,Qb,Qc]);(refine Qg rfl ?_ (λW g=>?_) ?_;rotate_left;(focus(have c:=(T1.out W g).cellv (i:=0) (v:=.slice B b.length t) rfl;go_simp;exact rfl));simp only[Act.put,Qa,Qb,Qc]);(refine Q8 rfl 85 _ (λW=>by(go_simp;try rfl)) (.int .i64 (ZD a b)) (λW g=>Ad0 A B s t a b W (T2.out W g) (T3.out W g) z aa) ?_;simp only[Act.put,Qa,Qb,Qc])
 (refine Qg rfl ?_ (λW g=>?_) ?_;rotate_left;(focus(go_simp;exact rfl));simp only[Act.put,Qa,Qb,Qc]);(refine Qg rfl ?_ (λW g=>?_) ?_;rotate_left;(focus(have c:=(T0.out W g).cellv (i:=1) (v:=.int .i64 l) rfl;go_simp;exact rfl));simp only[Act.put,Qa,Qb,Qc]);(refine Qg rfl ?_ (λW g=>?_) ?_;rotate_left;(focus(go_simp;exact rfl));simp only[Act.put,Qa,Qb,Qc]);(refine Qg rfl ?_ (λW g=>?_) ?_;rotate_left;(focus(have c:=(T1.out W g).cellv (i:=1) (v:=.int .i64 m) rfl;go_simp;exact rfl));simp only[Act.put,Qa,Qb,Qc]);(refine Q8 rfl 86 _ (λW=>by(go_simp;try rfl)) (.int .i64 (ZR l m)) (λW g=>(Uy l m W).mono λe w' h=>⟨h.1,by rw[<-h.2];exact Below.refl _ _⟩) ?_;simp only[Act.put,Qa,Qb,Qc])
 (refine Qg rfl ?_ (λW g=>?_) ?_;rotate_left;(focus(go_simp;exact rfl));simp only[Act.put,Qa,Qb,Qc]);(refine Qg rfl ?_ (λW g=>?_) ?_;rotate_left;(focus(have c:=(T0.out W g).cellv (i:=2) (v:=.int .i64 p) rfl;go_simp;exact rfl));simp only[Act.put,Qa,Qb,Qc]);(refine Qg rfl ?_ (λW g=>?_) ?_;rotate_left;(focus(go_simp;exact rfl));simp only[Act.put,Qa,Qb,Qc]);(refine Qg rfl ?_ (λW g=>?_) ?_;rotate_left;(focus(have c:=(T1.out W g).cellv (i:=2) (v:=.int .i64 q) rfl;go_simp;exact rfl));simp only[Act.put,Qa,Qb,Qc]);(refine Q8 rfl 86 _ (λW=>by(go_simp;try rfl)) (.int .i64 (ZR p q)) (λW g=>(Uy p q W).mono λe w' h=>⟨h.1,by rw[<-h.2];exact Below.refl _ _⟩) ?_;simp only[Act.put,Qa,Qb,Qc])
 refine Q4 λW g=>?_
 go_wp2_with (refine ZJ _ _ _ rfl ?_)
 refine Stop.to ?_;refine QA rfl 22 3 _ rfl 3 #[.int .i64 (ZD a b),.int .i64 (ZR l m),.int .i64 (ZR p q)] (λW=>by kernel_rfl) ?_;intro M Mw Mh Mr Mb;have bM:=(T4.out _ g).trans ((Mb.mono Mh).mono (T4.out _ g).size);go_wp2_with fail
 refine(Agx _ 3 [ZD a b,ZR l m,ZR p q] _ ?_ (by simp)).mono ?_
 ·intro j u o;refine⟨_,rfl,?_⟩;have h0:=Mr.cellv (i:=0) (v:=.int .i64 (ZD a b)) rfl;have h1:=Mr.cellv (i:=1) (v:=.int .i64 (ZR l m)) rfl;have h2:=Mr.cellv (i:=2) (v:=.int .i64 (ZR p q)) rfl
  match j,o with
  |0,o=>injection o with o;subst o;exact h0
  |1,o=>injection o with o;subst o;exact h1
  |2,o=>injection o with o;subst o;exact h2
  |k+3,o=>simp[Qi]at o
 rintro e w1 ⟨rfl,bO⟩;go_wp2_with fail
 go_ret
 exact⟨ZY (Ag5 _ _ _),bM.trans (bO.mono bM.size)⟩
theorem DlOk.go{W W':World}{x:DlV}(h:DlOk W x)(b:Below W.heap.size W W'):DlOk W' x:=⟨Rd.go h.rd b,h.len⟩
def Sc.cells (s:Sc):Array Value:=#[.int .i64 s.alive,.int .i64 s.killed,.int .i64 s.timeout]
theorem Aeq (w:World):(zeroValue 108).run Tryz.prog w=.ok (.agg #[.int .i64 0,.int .i64 0,.int .i64 0]) w:=by kernel_rfl
theorem AaI (w:World):(zeroValue 36).run Tryz.prog w=.ok (.agg #[.int .i64 0,.int .i64 0,.int .i64 0]) w:=by kernel_rfl
theorem Afv (s:Sc)(w:World):Calls Tryz.prog 77 #[.agg s.cells] w λe w'=>e=.returned (.agg s.cells)/\Below w.heap.size w w':=by
 have t:=AaI;go_enter Tryz.func77,Tryz.ntmps77
 go_wp2_with (refine Qq _ _ rfl ?_)
 refine Stop.to ?_;refine Qe rfl 108 _ rfl s.cells rfl ?_;intro G u l g k;go_wp2_with (refine QH _ rfl ?_)
 refine Stop.to ?_;refine Qj rfl 36 rfl _ _ (t _) rfl ?_;intro J x c m h;have j:=g.below h (Lg g.lt c);have d:=(Below.refl w.heap.size w).trans (k.mono l);have n:=d.trans ((h.mono c).mono d.size);have o:w.heap.size<=J:=Ld d.size c;have z:=j.cellv (i:=0) (v:=.int .i64 s.alive) rfl;have c1:=j.cellv (i:=1) (v:=.int .i64 s.killed) rfl;have c2:=j.cellv (i:=2) (v:=.int .i64 s.timeout) rfl;clear g k h d l c;go_wp2_with (refine Qs _ _ _ rfl ?_)
 refine Stop.to ?_;refine Qk rfl 36 _ _ rfl J s.cells rfl rfl 36 _ m (by kernel_rfl) rfl (by simp[Value.oneCell',Sc.cells]) ?_;intro y q p;go_wp2_with fail
 refine bodyPost_ret (results_cell_row Tryz.results77 _ _ J 36 _ (0,0) _ rfl q Tryz.underlying36 rfl (by kernel_rfl)) rfl ?_;exact⟨rfl,n.trans (p.below o)⟩
structure MtV where
 A:Option Addr
 cap:Nat
 m:Mt
def MtV.dl (x:MtV):DlV:=⟨x.A,x.cap,x.m.d⟩
def MtV.cells (x:MtV):List Value:=[.slice x.A x.m.d.path.length x.cap,.int .i64 x.m.d.op,.int .i64 x.m.d.n,.int .i64 x.m.verdict,.int .i64 x.m.test,.int .i64 x.m.kind,.int .i64 x.m.value,.string ⟨x.m.digest.toArray⟩]
structure MtOk (W:World)(x:MtV):Prop where
 rd:Rd W x.A (Qi x.m.d.path)
 len:x.m.d.path.length<=1000000
 nil:x.A=none->x.m.d.path=[]
 dig:x.m.digest.length<=1000000
theorem MtOk.go{W W':World}{x:MtV}(h:MtOk W x)(b:Below W.heap.size W W'):MtOk W' x:=⟨Rd.go h.rd b,h.len,h.nil,h.dig⟩
theorem MtOk.dl{W:World}{x:MtV}(h:MtOk W x):DlOk W x.dl:=⟨h.rd,h.len⟩
instance St.mtok{x:MtV}:St (λW=>MtOk W x):=⟨λh b=>h.go b⟩
instance St.mtsok{l:List MtV}:St (λW=>∀x∈l,MtOk W x):=⟨λh b x hx=>(h x hx).go b⟩
theorem KW{α:Type}{c:α->List Value}{sz:Nat}(hsz:∀x,(c x).length=sz)(h0:0<sz){W:World}{A:Option Addr}{l:List α}(hr:Rd W A (l.flatMap c)){k:Nat}{x:α}(hx:l[k]? =some x):
 ∃ad,A=some ad/\∀j u,(c x)[j]? =some u->W.cell? ((ad.add (k*sz)).add j)=some u:=by
 have g:∀(l:List α) (k:Nat) (x:α),l[k]? =some x->∀j u,(c x)[j]? =some u->(l.flatMap c)[k*sz+j]? =some u:=by
  intro l
  induction l with
  |nil=>intro k x h;simp at h
  |cons y l ih=>
   intro k x h j u d;rw[L8]
   match k,h with
   |0,h=>
    simp at h;subst h;rw[Nat.zero_mul,LG,L3 (La.1 d).1];exact d
   |k+1,h=>
    rw[LW]at h;rw[Lx (by rw[hsz,Nat.add_mul];omega),hsz,show(k+1)*sz+j-sz=k*sz+j by rw[Nat.add_mul];omega];exact ih k x h j u d
 exact hr.part (k*sz) (c x) (g l k x hx) (λe=>by have:=hsz x;rw[e]at this;simp at this;omega)
end Go.Proofs.YtkoikjnlpifbjaaGreat
namespace Go.Proofs.YtkoikjnlpifbjaaGreat
open Go.ChangeShapes Go.WideShapes Go.RowKit Go.Deep
theorem AeH:Tryz.prog.cellsOf 65=2:=by kernel_rfl
theorem AeI:Tryz.prog.cellsOf 25=3:=by kernel_rfl
theorem AeG:Tryz.prog.cellsOf 22=1:=by kernel_rfl
theorem AcS:Tryz.prog.cellsOf 23=1:=by kernel_rfl
structure IntsV where
 addr:Option Addr
 cap:Nat
 l:List Int
def IntsV.val (r:IntsV):Value:=.slice r.addr r.l.length r.cap
structure IntsV.ok (r:IntsV)(w:World):Prop where
 len:r.l.length<=r.cap
 cap:r.cap<=maxLen
 nil:r.addr=none->r.cap=0
 reads:Rd w r.addr (Qi r.l)
 all:∀x∈r.l,InI x
theorem IntsV.ok.go{r:IntsV}{w w':World}(h:r.ok w)(b:Below w.heap.size w w'):r.ok w':=⟨h.len,h.cap,h.nil,h.reads.go b,h.all⟩
instance St.intsok{r:IntsV}:St (λW=>r.ok W):=⟨λh b=>h.go b⟩
def PgV.val (p:PgV):Value:=.agg p.cells
section
variable {H:Type} {enc:TypeId×Value->H} {w:World} {base:Nat} {spare:Nat->Bool} {held:Bool}
theorem Ag2{fuel:Nat}{cs:List Value}{x:DataW H×List MemPlace}(h:DataW.trod enc Tryz.prog w base spare held fuel 3 cs=some x):∃n:Int,cs=[.int .i64 n]/\InI n:=by
 obtain⟨n,e,h⟩:=UW Tryz.underlying3 h;exact⟨n,e,h⟩
theorem Ag3{fuel:Nat}{cs:List Value}{x:DataW H×List MemPlace}(h:DataW.trod enc Tryz.prog w base spare held fuel 65 cs=some x):∃e:Nd,cs=e.cells/\InI e.tag/\InI e.n:=by
 obtain⟨l,n,i⟩:=Aay Tryz.underlying65 h;have c:cs.length=2:=l.trans AeH
 match cs,c with
 |[a,b],_=>
  obtain⟨_,j⟩:=i 0 _ rfl;obtain⟨_,k⟩:=i 1 _ rfl;obtain⟨m,d,p⟩:=UW Tryz.underlying3 j;obtain⟨o,g,q⟩:=UW Tryz.underlying3 k;simp[Aa6]at d g;exact⟨⟨m,o⟩,by rw[d,g];rfl,p,q⟩
theorem AgQ (l:List Int):l.flatMap (λn=>[Value.int .i64 n])=Qi l:=by
 induction l with
 |nil=>rfl
 |cons a l ih=>rw[L8,ih];rfl
theorem E4{fuel:Nat}{cs:List Value}{x:DataW H×List MemPlace}(h:DataW.trod enc Tryz.prog w base spare held fuel 22 cs=some x):∃r:IntsV,r.ok w/\cs=[r.val]:=by
 obtain⟨A,c,g,rfl,i,k,o,s,j,m⟩:=Vj Tryz.underlying22 h;obtain⟨l,rfl,d⟩:=US (λn:Int=>[Value.int .i64 n]) InI g (λq e=>by obtain⟨n,y,p⟩:=m q e;exact Ag2 p);rw[Lu]at i;refine⟨⟨A,c,l⟩,⟨i,k,o,?_,d⟩,by rw[Lu];rfl⟩;rw[<-List.flatMap_def,AgQ]at j;exact j
theorem AdU{fuel:Nat}{cs:List Value}{x:DataW H×List MemPlace}(h:DataW.trod enc Tryz.prog w base spare held fuel 23 cs=some x):
 ∃(A:Option Addr) (cap:Nat) (l:List Nd),cs=[.slice A l.length cap]/\l.length<=cap/\cap<=maxLen/\(A=none->cap=0)/\Rd w A (l.flatMap Nd.cells)/\∀e∈l,InI e.tag/\InI e.n:=by
 obtain⟨A,cap,g,rfl,i,j,o,s,k,m⟩:=Vj Tryz.underlying23 h;obtain⟨l,rfl,c⟩:=US Nd.cells (λe=>InI e.tag/\InI e.n) g (λq d=>by obtain⟨n,y,p⟩:=m q d;exact Ag3 p);rw[Lu]at i;exact⟨A,cap,l,by rw[Lu],i,j,o,by rw[List.flatMap_def];exact k,c⟩
theorem Afg{fuel:Nat}{cs:List Value}{x:DataW H×List MemPlace}(h:DataW.trod enc Tryz.prog w base spare held fuel 25 cs=some x):∃p:PgV,p.ok w/\cs=p.cells.toList:=by
 obtain⟨z,n,e⟩:=Aay Tryz.underlying25 h;have g:cs.length=3:=z.trans AeI
 match cs,g with
 |[a,b,c],_=>
  obtain⟨_,u⟩:=e 0 _ rfl;obtain⟨_,v⟩:=e 1 _ rfl;obtain⟨_,y⟩:=e 2 _ rfl;obtain⟨n0,i,w0⟩:=UW Tryz.underlying3 u;obtain⟨r,d,j⟩:=E4 v;obtain⟨A,cap,l,k,m,o,q,s,t⟩:=AdU y;simp[Aa6,AeG,AcS]at i j k;exact⟨⟨n0,r.addr,r.cap,r.l,A,cap,l⟩,⟨w0,d.len,d.cap,d.nil,d.reads,d.all,m,o,q,s,t⟩,by rw[i,j,k];rfl⟩
theorem Ag4{r:Go.Reach}{b0:Nat}{v:Value}{d:DataW H}{p:List MemPlace}(hv:Value.okWide Tryz.prog w r b0 25 v)(h:DataW.Trod enc Tryz.prog w base spare held 25 v d p):∃p:PgV,p.ok w/\v=p.val:=by
 obtain⟨i,rfl,c,x,g⟩:=Ai4 Tryz.underlying25 hv h;obtain⟨p,e,rfl⟩:=Afg g;exact⟨p,e,rfl⟩
end
end Go.Proofs.YtkoikjnlpifbjaaGreat
namespace Go.Proofs.YtkoikjnlpifbjaaGreat
open Go.RowKit Go.Deep
theorem Jt{α:Type}{c:α->Value}{W:World}{A:Option Addr}{l:List α}(hr:Rd W A (l.map c)){k:Nat}{x:α}(hx:l[k]? =some x):∃ad,A=some ad/\W.cell? (ad.add k)=some (c x):=
 hr k _ (by simp[hx])
instance St.intsok_all{l:List IntsV}:St (λW=>∀x∈l,x.ok W):=⟨λh b x hx=>(h x hx).go b⟩
theorem AlE{W:World}{A:Option Addr}{l:List MtV}(hr:Rd W A (l.flatMap MtV.cells)){k:Nat}{x:MtV}(hx:l[k]? =some x):∃ad,A=some ad/\∀j u,x.cells[j]? =some u->W.cell? ((ad.add (k*8)).add j)=some u:=
 KW (sz:=8) (λ_=>rfl) (by decide) hr hx
def Jo (l:List IntsV):List Value:=l.map IntsV.val
def XJ (l:List MtV):List Value:=l.flatMap MtV.cells
theorem Ajg (w:World):(zeroValue 54).run Tryz.prog w=.ok (.agg #[.slice none 0 0,.int .i64 0,.int .i64 0,.int .i64 0,.int .i64 0,.int .i64 0,.int .i64 0,.string ByteArray.empty]) w:=by kernel_rfl
theorem Afb (x:MtV):x.cells.toArray.all (·.oneCell')=true:=by simp[MtV.cells,Value.oneCell']
def Adi{α:Type}(p:α->Bool)(l:List α):Int:=match l.findIdx? p with|some i=>(i:Int)|none=> -1
theorem Adk{α:Type}{p:α->Bool}{l:List α}{k:Nat}{x:α}(h:∀y∈l.take k,p y=false)(hx:l[k]? =some x)(hp:p x=true):Adi p l=(k:Int):=by
 unfold Adi;have c:=(La.1 hx).1
 have:l.findIdx? p=some k:=by
  rw[List.findIdx?_eq_some_iff_getElem];refine⟨c,by rw[(La.1 hx).2];exact hp,λj d=>?_⟩;rw[h _ (List.mem_take_iff_getElem.2 ⟨j,by omega,rfl⟩)];simp
 rw[this]
theorem AfX{α:Type}{p:α->Bool}{l:List α}(h:∀y∈l,p y=false):Adi p l= -1:=by
 unfold Adi;have:l.findIdx? p=none:=by rw[List.findIdx?_eq_none_iff];exact h
 rw[this]
theorem Adj{α:Type}(p:α->Bool)(l:List α):decide (0<=Adi p l)=l.any p:=by
 unfold Adi;cases h:l.findIdx? p with
 |none=>
  rw[List.findIdx?_eq_none_iff]at h;simp;intro x e;simpa using h x e
 |some i=>
  rw[List.findIdx?_eq_some_iff_getElem]at h;obtain⟨c,d,_⟩:=h;simp;exact⟨l[i],List.getElem_mem c,d⟩
theorem YK{α:Type}{p:α->Bool}{l:List α}{k:Nat}{x:α}(h:∀y∈l.take k,p y=false)(hx:l[k]? =some x)(hp:p x=false):∀y∈l.take (k+1),p y=false:=by
 rw[L9,hx];intro y c;rcases L2.1 c with c|c
 ·exact h y c
 ·simp at c;subst c;exact hp
theorem AgO (A:Option Addr)(cap:Nat)(l:List Nd)(p:Nd->Bool)(w:World)(S:World->Prop)[stS:St S](hS:S w)(hrd:∀W,S W->Rd W A (l.flatMap Nd.cells))(hlo:∀W,S W->Below w.heap.size w W)
 (hp:∀x∈l,∀W,S W->Calls Tryz.prog 100 #[.agg x.cells.toArray] W λe W'=>e=.returned (.bool (p x))/\Below W.heap.size W W') (hl:l.length<=1000000):
 Calls Tryz.prog 136 #[.slice A l.length cap,.func (.func 100) #[] #[]] w λe w'=>e=.returned (.int .i64 (Adi p l))/\Below w.heap.size w w':=by
 have Hp:=Lh hp;have t:=Lh hrd;have n:=Lh hlo;have ab:(l.length:Int)<=1000000:=by omega
 clear hp hrd hlo hl;go_enter Tryz.func136,Tryz.ntmps136
 go_wp2
 go_loopw [8] (λi wr=>∃k:Nat,i=.int .i64 (k:Int)/\k<=l.length/\Hid (∀y∈l.take k,p y=false)/\S wr) (λi _=>l.length-(intOf i).toNat)
 case atStart=>exact⟨0,rfl,Nat.zero_le _,Lh (λx h=>by simp at h),hS⟩
 case round=>
  clear hS;obtain⟨k,rfl,hk,c,hS⟩:=hrel;by_cases g:k<l.length
  ·obtain⟨x,h⟩:∃x,l[k]? =some x:=⟨_,Lb g⟩;obtain⟨z,v,q⟩:=J6 (t.out _ hS) h;have m:Hid (∀j u,x.cells[j]? =some u->wr.cell? ((z.add (k*2)).add j)=some u):=q;have s:=Lh h;have d:=Lh (Hp.out x (Lf h) wr hS);have aa:(k:Int)<(l.length:Int):=by omega
   clear h g q;subst v;go_wp2_with (refine QT rfl 65 _ rfl (z.add (k*2)) rfl x.cells _ m.out Tryz.underlying65 rfl (by kernel_rfl) ?_)
   refine d.out.mono ?_;rintro e w' ⟨rfl,b1⟩;replace hS:=stS.go hS b1;clear b1 d m;cases hs:p x
   ·have o:=Lh (YK c.out s.out hs);clear hs s;go_wp2_with fail
    go_roundw
    case rel=>exact⟨k+1,by go_num,by omega,o,hS⟩
    case measure=>simp[intOf];omega
   ·have o:=Lh (Adk c.out s.out hs);clear hs s;go_wp2_with fail
    go_ret
    exact⟨by rw[o.out];rfl,n.out _ hS⟩
  ·obtain rfl:k=l.length:=by omega
   have o:=Lh (AfX (p:=p) (l:=l) (by have:=c.out;rwa[LT]at this));clear g hk;go_wp2
   go_ret
   exact⟨by rw[o.out];rfl,n.out _ hS⟩
theorem AeO (A:Option Addr)(cap:Nat)(l:List Nd)(p:Nd->Bool)(w:World)(S:World->Prop)[stS:St S](hS:S w)(hrd:∀W,S W->Rd W A (l.flatMap Nd.cells))(hlo:∀W,S W->Below w.heap.size w W)
 (hp:∀x∈l,∀W,S W->Calls Tryz.prog 100 #[.agg x.cells.toArray] W λe W'=>e=.returned (.bool (p x))/\Below W.heap.size W W') (hl:l.length<=1000000):
 Calls Tryz.prog 99 #[.slice A l.length cap,.func (.func 100) #[] #[]] w λe w'=>e=.returned (.bool (l.any p))/\Below w.heap.size w w':=by
 have c:=Lh (AgO A cap l p w S hS hrd hlo hp hl);clear hp hrd hlo hl hS;go_enter Tryz.func99,Tryz.ntmps99
 go_wp2_with fail
 refine c.out.mono ?_;rintro e w' ⟨rfl,g⟩;have d:=Lh (Adj p l);clear c;go_wp2_with fail
 go_ret
 exact⟨Kg d.out.symm,g⟩
theorem AeJ (x:Nd)(w:World):
 Calls Tryz.prog 100 #[.agg x.cells.toArray] w λe w'=>e=.returned (.bool (decide (Qv x<0)))/\Below w.heap.size w w':=by
 go_enter Tryz.func100,Tryz.ntmps100
 go_wp2_with (refine Qq _ _ rfl ?_)
 refine Stop.to ?_;refine Qe rfl 65 _ rfl x.cells.toArray rfl ?_;intro G k g h d;have c:=(Below.refl w.heap.size w).trans (d.mono g);have i:=Lh (XQ x k);clear d g;go_wp2_with (refine wpList_load_row rfl 65 _ rfl G rfl 65 x.cells.toArray (0,0) _ h Tryz.underlying65 rfl (by kernel_rfl) ?_)
 refine i.out.mono ?_;rintro e m ⟨rfl,j⟩;have l:=c.trans (j.mono c.size);clear i h c j;go_wp2_with fail
 go_ret
 exact⟨rfl,l⟩
structure CpV where
 p:PgV
 tA:Option Addr
 tcap:Nat
 tests:List IntsV
 fuel:Int
 mA:Option Addr
 mcap:Nat
 mts:List MtV
 sc:Sc
def CpV.cells (c:CpV):Array Value:=#[.int .i64 c.p.params,.slice c.p.va c.p.V.length c.p.vcap,.slice c.p.ba c.p.body.length c.p.bcap,.slice c.tA c.tests.length c.tcap,.int .i64 c.fuel,.slice c.mA c.mts.length c.mcap,.int .i64 c.sc.alive,.int .i64 c.sc.killed,.int .i64 c.sc.timeout]
structure CpOk (W:World)(c:CpV):Prop where
 pok:c.p.ok W
 bl:c.p.body.length<=1000
 vl:c.p.V.length<=1000
 trd:Rd W c.tA (Jo c.tests)
 tok:∀x∈c.tests,x.ok W
 tlen:c.tests.length<=1000
 tl:∀x∈c.tests,x.l.length<=1000
 tnil:c.tA=none->c.tests=[]
 mrd:Rd W c.mA (XJ c.mts)
 mok:∀x∈c.mts,MtOk W x
 mlen:c.mts.length<=100000
 mnil:c.mA=none->c.mts=[]
theorem CpOk.go{W W':World}{c:CpV}(h:CpOk W c)(b:Below W.heap.size W W'):CpOk W' c:=
 ⟨h.pok.go b,h.bl,h.vl,h.trd.go b,λx hx=>(h.tok x hx).go b,h.tlen,h.tl,h.tnil,h.mrd.go b,λx hx=>(h.mok x hx).go b,h.mlen,h.mnil⟩
instance St.cpok{c:CpV}:St (λW=>CpOk W c):=⟨λh b=>h.go b⟩
def CpV.testsL (c:CpV):List (List Int):=c.tests.map IntsV.l
def CpV.muts (c:CpV):List Mt:=c.mts.map MtV.m
def EK (l:List IntsV):Bool:=decide (l.length<=40/\∀x∈l,x.l.length<=40)
theorem AaW{α:Type}{p:α->Prop}{l:List α}{k:Nat}{x:α}(h:∀y∈l.take k,p y)(hx:l[k]? =some x)(hp:p x):∀y∈l.take (k+1),p y:=by
 rw[L9,hx];intro y c;rcases L2.1 c with c|c
 ·exact h y c
 ·simp at c;subst c;exact hp
theorem Ah9 (A:Option Addr)(cap:Nat)(l:List IntsV)(w:World)(hr:Rd w A (Jo l)):
 Calls Tryz.prog 59 #[.slice A l.length cap] w λe w'=>e=.returned (.bool (EK l))/\w=w':=by
 have Hr:=Lh hr;clear hr;by_cases c:l.length<=40;rotate_left
 ·have g:EK l=false:=by unfold EK;rw[decide_eq_false_iff_not];exact λh=>c h.1
  have m:=Lh g;have t:(40:Int)<(l.length:Int):=by omega
  clear g c;go_enter Tryz.func59,Tryz.ntmps59
  go_wp2
  go_ret
  exact⟨Kg m.out,rfl⟩
 have t:(l.length:Int)<=40:=by omega
 have s:=Lh c;clear c;go_enter Tryz.func59,Tryz.ntmps59
 go_wp2
 go_loop [3] (λi=>∃k:Nat,i=.int .i64 (k:Int)/\k<=l.length/\Hid (∀x∈l.take k,x.l.length<=40)) (λi=>l.length-(intOf i).toNat)
 case atStart=>exact⟨0,rfl,Nat.zero_le _,Lh (λx o=>by simp at o)⟩
 case round=>
  obtain⟨k,rfl,hk,d⟩:=hrel;by_cases j:k<l.length
  ·obtain⟨x,o⟩:∃x,l[k]? =some x:=⟨_,Lb j⟩;obtain⟨ad,u,n⟩:=Jt Hr.out o;have hc:w.cell? (ad.add k)=some (.slice x.addr x.l.length x.cap):=n;have y:=Lh o;have z:(k:Int)<(l.length:Int):=by omega
   clear o j n;subst u;by_cases q:x.l.length<=40
   ·have v:(x.l.length:Int)<=40:=by omega
    have Hn:=Lh (AaW (p:=λx:IntsV=>x.l.length<=40) d.out y.out q);clear q;go_wp2
    go_round
    case rel=>exact⟨k+1,by go_num,by omega,Hn⟩
    case measure=>simp[intOf];omega
   ·have v:(40:Int)<(x.l.length:Int):=by omega
    have g:EK l=false:=by unfold EK;rw[decide_eq_false_iff_not];exact λh=>q (h.2 x (Lf y.out))
    have m:=Lh g;clear g q;go_wp2
    go_ret
    exact⟨Kg m.out,rfl⟩
  ·obtain rfl:k=l.length:=by omega
   have g:EK l=true:=by unfold EK;rw[decide_eq_true_eq];exact⟨s.out,by have:=d.out;rwa[LT]at this⟩
   have m:=Lh g;clear g j hk;go_wp2
   go_ret
   exact⟨Kg m.out,rfl⟩
theorem XP (a:Addr):a.add 0=a:=by unfold Addr.add;rw[if_pos rfl]
end Go.Proofs.YtkoikjnlpifbjaaGreat
