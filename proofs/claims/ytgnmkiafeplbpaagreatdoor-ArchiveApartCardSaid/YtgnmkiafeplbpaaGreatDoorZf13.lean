/- Lemmas for ArAll. -/
import Derived.Test.YtgnmkiafeplbpaaGreatDoorZf1
import Derived.Test.YtgnmkiafeplbpaaGreatDoorZf12
set_option linter.unusedVariables false
set_option linter.unusedSimpArgs false
set_option maxRecDepth 100000
set_option maxHeartbeats 16000000
namespace Go.Proofs.YtgnmkiafeplbpaaGreatDoor
open Go.RowKit Go.Deep
theorem ZT{α:Type}{c:α->Value}{W:World}{A:Option Addr}{l:List α}(hr:Rd W A (l.map c)){k:Nat}{x:α}(hx:l[k]? =some x):∃ad,A=some ad/\W.cell? (ad.add k)=some (c x):=
 hr k _ (by simp[hx])
instance St.intsok_all{l:List IntsV}:St (λW=>∀x∈l,x.ok W):=⟨λh b x hx=>(h x hx).go b⟩
theorem KM{W:World}{A:Option Addr}{l:List MtV}(hr:Rd W A (l.flatMap MtV.cells)){k:Nat}{x:MtV}(hx:l[k]? =some x):∃ad,A=some ad/\∀j u,x.cells[j]? =some u->W.cell? ((ad.add (k*8)).add j)=some u:=
 Agz (sz:=8) (λ_=>rfl) (by decide) hr hx
theorem Ky{α β:Type}{f:α->β}{a b:List α}{k:Nat}{x y:α}(h:(a.take k).map f=(b.take k).map f)(hx:a[k]? =some x)(hy:b[k]? =some y)(e:f x=f y):(a.take (k+1)).map f=(b.take (k+1)).map f:=by
 rw[L5,L5,LW,LW,h,hx,hy];simp[e]
theorem Xy{α β:Type}{f:α->β}{a b:List α}{k:Nat}{x y:α}(hx:a[k]? =some x)(hy:b[k]? =some y)(e:f x≠f y):a.map f≠b.map f:=λh=>by
 have c:(a.map f)[k]? =(b.map f)[k]? :=by rw[h]
 rw[LR,LR,hx,hy]at c;exact e (by simpa using c)
instance:DecidableEq Mt:=λa b=>decidable_of_iff (Kf a b=true) sameM_iff
def ZU (l:List IntsV):List Value:=l.map IntsV.val
def ZH (l:List MtV):List Value:=l.flatMap MtV.cells
theorem Ad8 (A B:Option Addr)(c d na nb:Nat)(a b:List IntsV)(w:World)(hna:na=a.length)(hnb:nb=b.length)(ha:Rd w A (ZU a))(hb:Rd w B (ZU b))(hoa:∀x∈a,x.ok w)(hob:∀x∈b,x.ok w)(hla:a.length<=1000000)(hsa:∀x∈a,x.l.length<=1000000):
 Calls Tryz.prog 159 #[.slice A na c,.slice B nb d,.func (.func 157) #[] #[]] w λe w'=>e=.returned (.bool (decide (a.map IntsV.l=b.map IntsV.l)))/\Below w.heap.size w w':=by
 have ae:=Lv hsa;clear hsa;by_cases hl:na=nb;rotate_left
 ·have ar:((na:Int) != (nb:Int))=true:=by simp;omega
  have ab:a.map IntsV.l≠b.map IntsV.l:=λe=>hl (by rw[hna,hnb];simpa using congrArg List.length e)
  have u:Hid (decide (a.map IntsV.l=b.map IntsV.l)=false):=by show _=_;simp[ab]
  clear hl hna hnb ab ha hb hla hoa hob;go_enter Tryz.func159,Tryz.ntmps159
  go_wp2
  go_ret
  exact⟨QD u.out,Below.refl _ _⟩
 subst hl;have Ha:=Lv hna;have Hb:=Lv hnb;have au:(na:Int)<=1000000:=by omega
 clear hna hnb hla;obtain⟨S,g⟩:∃S,S=(λW=>Rd W A (ZU a)/\Rd W B (ZU b)/\(∀x∈a,x.ok W)/\(∀x∈b,x.ok W)/\Below w.heap.size w W):=⟨_,rfl⟩;have ao:St S:=by rw[g];infer_instance
 have y:Hid (∀W,S W->Rd W A (ZU a)):=by show ∀W,_;rw[g];exact λW h=>h.1
 have z:Hid (∀W,S W->Rd W B (ZU b)):=by show ∀W,_;rw[g];exact λW h=>h.2.1
 have ag:Hid (∀W,S W->∀x∈a,x.ok W):=by show ∀W,_;rw[g];exact λW h=>h.2.2.1
 have ah:Hid (∀W,S W->∀x∈b,x.ok W):=by show ∀W,_;rw[g];exact λW h=>h.2.2.2.1
 have aa:Hid (∀W,S W->Below w.heap.size w W):=by show ∀W,_;rw[g];exact λW h=>h.2.2.2.2
 have j:S w:=by rw[g];exact⟨ha,hb,hoa,hob,Below.refl _ _⟩
 clear g ha hb hoa hob;go_enter Tryz.func159,Tryz.ntmps159
 go_wp2
 go_loopw [17] (λi wr=>∃k:Nat,i=.int .i64 (k:Int)/\k<=na/\Hid ((a.take k).map IntsV.l=(b.take k).map IntsV.l)/\S wr) (λi _=>na-(intOf i).toNat)
 case atStart=>exact⟨0,by simp,Nat.zero_le _,by simp[Hid],j⟩
 case round=>
  clear j;obtain⟨k,rfl,hk,v,j⟩:=hrel;by_cases an:k<na
  ·obtain⟨e,he⟩:∃e,a[k]? =some e:=⟨_,Ld (by have:=Ha.out;omega)⟩;obtain⟨f,hf⟩:∃f,b[k]? =some f:=⟨_,Ld (by have:=Hb.out;omega)⟩;obtain⟨ad,aj,_⟩:=ZT (y.out _ j) he;obtain⟨bd,ak,_⟩:=ZT (z.out _ j) hf;subst aj ak
   have q:Hid (∀W,S W->W.cell? (ad.add k)=some (.slice e.addr e.l.length e.cap)):=λW h=>by
    obtain⟨ai,o,h2⟩:=ZT (y.out _ h) he;injection o with o;subst o;exact h2
   have s:Hid (∀W,S W->W.cell? (bd.add k)=some (.slice f.addr f.l.length f.cap)):=λW h=>by
    obtain⟨ai,o,h2⟩:=ZT (z.out _ h) hf;injection o with o;subst o;exact h2
   have He:=Lv he;have Hf:=Lv hf;have p:=Lv (Li he);have t:=Lv (Li hf);have ap:(k:Int)<(na:Int):=by omega
   have aq:IntKind.i64.wrap ((k:Int)+1)=(k:Int)+1:=IntWalk.i64_in _ (by omega);clear he hf;have al:=q.out _ j;have am:=s.out _ j;have n:=Lv (AaC e.addr f.addr e.cap f.cap _ _ e.l f.l wr rfl rfl (ag.out _ j e p.out).reads (ah.out _ j f t.out).reads (ae.out e p.out));go_wp2_with fail
   refine n.out.mono ?_;rintro e' w1 ⟨rfl,b1⟩;replace j:=ao.go j b1;clear n al am b1;by_cases m:e.l=f.l
   ·have hd:decide (e.l=f.l)=true:=by simp[m]
    rw[hd];clear hd;have af:=Lv (Ky (f:=IntsV.l) v.out He.out Hf.out m);clear q s He Hf v m p t;go_wp2
    go_roundw
    case rel=>exact⟨k+1,by go_num,by omega,af,j⟩
    case measure=>simp[intOf];omega
   ·have hd:decide (e.l=f.l)=false:=by simp[m]
    rw[hd];clear hd
    have u:Hid (decide (a.map IntsV.l=b.map IntsV.l)=false):=by
     show _=_;have:=Xy (f:=IntsV.l) He.out Hf.out m;simp[this]
    clear q s He Hf v m p t;go_wp2
    go_ret
    exact⟨QD u.out,aa.out _ j⟩
  ·obtain rfl:k=na:=by omega
   have ac:Hid (decide (a.map IntsV.l=b.map IntsV.l)=true):=by
    show _=_;have o:=v.out;rw[Lm (by have:=Ha.out;omega),Lm (by have:=Hb.out;omega)]at o;simp[o]
   clear an hk v;go_wp2
   go_ret
   exact⟨QD ac.out,aa.out _ j⟩
theorem Aa7 (A B:Option Addr)(c d na nb:Nat)(a b:List IntsV)(w:World)(hna:na=a.length)(hnb:nb=b.length)(ha:Rd w A (ZU a))(hb:Rd w B (ZU b))(hoa:∀x∈a,x.ok w)(hob:∀x∈b,x.ok w)(hla:a.length<=1000000)(hsa:∀x∈a,x.l.length<=1000000):
 Calls Tryz.prog 53 #[.slice A na c,.slice B nb d] w λe w'=>e=.returned (.bool (decide (a.map IntsV.l=b.map IntsV.l)))/\Below w.heap.size w w':=by
 have af:=Lv hsa;clear hsa;by_cases hl:na=nb;rotate_left
 ·have ap:((na:Int) != (nb:Int))=true:=by simp;omega
  have ab:a.map IntsV.l≠b.map IntsV.l:=λe=>hl (by rw[hna,hnb];simpa using congrArg List.length e)
  have u:Hid (decide (a.map IntsV.l=b.map IntsV.l)=false):=by show _=_;simp[ab]
  clear hl hna hnb ab ha hb hla hoa hob;go_enter Tryz.func53,Tryz.ntmps53
  go_wp2
  go_ret
  exact⟨QD u.out,Below.refl _ _⟩
 subst hl;have Ha:=Lv hna;have Hb:=Lv hnb;have aq:(na:Int)<=1000000:=by omega
 clear hna hnb hla;obtain⟨S,g⟩:∃S,S=(λW=>Rd W A (ZU a)/\Rd W B (ZU b)/\(∀x∈a,x.ok W)/\(∀x∈b,x.ok W)/\Below w.heap.size w W):=⟨_,rfl⟩;have ar:St S:=by rw[g];infer_instance
 have y:Hid (∀W,S W->Rd W A (ZU a)):=by show ∀W,_;rw[g];exact λW h=>h.1
 have z:Hid (∀W,S W->Rd W B (ZU b)):=by show ∀W,_;rw[g];exact λW h=>h.2.1
 have ah:Hid (∀W,S W->∀x∈a,x.ok W):=by show ∀W,_;rw[g];exact λW h=>h.2.2.1
 have ai:Hid (∀W,S W->∀x∈b,x.ok W):=by show ∀W,_;rw[g];exact λW h=>h.2.2.2.1
 have aa:Hid (∀W,S W->Below w.heap.size w W):=by show ∀W,_;rw[g];exact λW h=>h.2.2.2.2
 have m:S w:=by rw[g];exact⟨ha,hb,hoa,hob,Below.refl _ _⟩
 clear g ha hb hoa hob;go_enter Tryz.func53,Tryz.ntmps53
 go_wp2
 go_loopw [5] (λi wr=>∃k:Nat,i=.int .i64 (k:Int)/\k<=na/\Hid ((a.take k).map IntsV.l=(b.take k).map IntsV.l)/\S wr) (λi _=>na-(intOf i).toNat)
 case atStart=>exact⟨0,by simp,Nat.zero_le _,by simp[Hid],m⟩
 case round=>
  clear m;obtain⟨k,rfl,hk,v,m⟩:=hrel;by_cases am:k<na
  ·obtain⟨e,he⟩:∃e,a[k]? =some e:=⟨_,Ld (by have:=Ha.out;omega)⟩;obtain⟨f,hf⟩:∃f,b[k]? =some f:=⟨_,Ld (by have:=Hb.out;omega)⟩;obtain⟨ad,ak,_⟩:=ZT (y.out _ m) he;obtain⟨bd,al,_⟩:=ZT (z.out _ m) hf;subst ak al
   have q:Hid (∀W,S W->W.cell? (ad.add k)=some (.slice e.addr e.l.length e.cap)):=λW h=>by
    obtain⟨aj,n,h2⟩:=ZT (y.out _ h) he;injection n with n;subst n;exact h2
   have s:Hid (∀W,S W->W.cell? (bd.add k)=some (.slice f.addr f.l.length f.cap)):=λW h=>by
    obtain⟨aj,n,h2⟩:=ZT (z.out _ h) hf;injection n with n;subst n;exact h2
   have He:=Lv he;have Hf:=Lv hf;have o:=Lv (Li he);have t:=Lv (Li hf);have an:(k:Int)<(na:Int):=by omega
   have ao:IntKind.i64.wrap ((k:Int)+1)=(k:Int)+1:=IntWalk.i64_in _ (by omega);clear he hf;have ac:=af.out e o.out;go_wp2
   refine QG S (by kernel_rfl) (by kernel_rfl) (St.drew m) ?_;clear m
   iterate 3 (refine Qe rfl ?_ (λW p=>?_) ?_;rotate_left;(focus(go_simp;exact rfl));simp only[Act.put,Qa,Qb,Qc])
   (refine Qe rfl ?_ (λW p=>?_) ?_;rotate_left;(focus(have c:=q.out W p;go_simp;exact rfl));simp only[Act.put,Qa,Qb,Qc])
   iterate 3 (refine Qe rfl ?_ (λW p=>?_) ?_;rotate_left;(focus(go_simp;exact rfl));simp only[Act.put,Qa,Qb,Qc])
   (refine Qe rfl ?_ (λW p=>?_) ?_;rotate_left;(focus(have c:=s.out W p;go_simp;exact rfl));simp only[Act.put,Qa,Qb,Qc]);(refine QA rfl 124 _ (λW=>by(go_simp;try rfl)) (.bool (decide (e.l=f.l))) (λW p=>EK e.addr f.addr e.cap f.cap _ _ e.l f.l W rfl rfl (ah.out _ p e o.out).reads (ai.out _ p f t.out).reads ac) ?_;simp only[Act.put,Qa,Qb,Qc])
   (refine Qe rfl ?_ (λW p=>?_) ?_;rotate_left;(focus(go_simp;exact rfl));simp only[Act.put,Qa,Qb,Qc]);refine QE λW m=>?_
   clear ac;by_cases j:e.l=f.l
   ·have hd:decide (e.l=f.l)=true:=by simp[j]
    rw[hd];clear hd;have ag:=Lv (Ky (f:=IntsV.l) v.out He.out Hf.out j);clear q s He Hf v j o t;go_wp2
    go_roundw
    case rel=>exact⟨k+1,by go_num,by omega,ag,m⟩
    case measure=>simp[intOf];omega
   ·have hd:decide (e.l=f.l)=false:=by simp[j]
    rw[hd];clear hd
    have u:Hid (decide (a.map IntsV.l=b.map IntsV.l)=false):=by
     show _=_;have:=Xy (f:=IntsV.l) He.out Hf.out j;simp[this]
    clear q s He Hf v j o t;go_wp2
    go_ret
    exact⟨QD u.out,aa.out _ m⟩
  ·obtain rfl:k=na:=by omega
   have ae:Hid (decide (a.map IntsV.l=b.map IntsV.l)=true):=by
    show _=_;have n:=v.out;rw[Lm (by have:=Ha.out;omega),Lm (by have:=Hb.out;omega)]at n;simp[n]
   clear am hk v;go_wp2
   go_ret
   exact⟨QD ae.out,aa.out _ m⟩
theorem VL (w:World):(zeroValue 95).run Tryz.prog w=.ok (.agg #[.slice none 0 0,.int .i64 0,.int .i64 0,.int .i64 0,.int .i64 0,.int .i64 0,.int .i64 0,.string ByteArray.empty]) w:=by kernel_rfl
theorem Adj (x:MtV):x.cells.toArray.all (·.oneCell')=true:=by simp[MtV.cells,Value.oneCell']
theorem AfK (A B:Option Addr)(c d na nb:Nat)(a b:List MtV)(w:World)(hna:na=a.length)(hnb:nb=b.length)(ha:Rd w A (ZH a))(hb:Rd w B (ZH b))(hoa:∀x∈a,MtOk w x)(hob:∀x∈b,MtOk w x)(hla:a.length<=1000000):
 Calls Tryz.prog 81 #[.slice A na c,.slice B nb d,.func (.func 82) #[] #[]] w λe w'=>e=.returned (.bool (decide (a.map MtV.m=b.map MtV.m)))/\Below w.heap.size w w':=by
 by_cases hl:na=nb;rotate_left
 ·have ap:((na:Int) != (nb:Int))=true:=by simp;omega
  have ae:a.map MtV.m≠b.map MtV.m:=λe=>hl (by rw[hna,hnb];simpa using congrArg List.length e)
  have y:Hid (decide (a.map MtV.m=b.map MtV.m)=false):=by show _=_;simp[ae]
  clear hl hna hnb ae ha hb hla hoa hob;go_enter Tryz.func81,Tryz.ntmps81
  go_wp2
  go_ret
  exact⟨QD y.out,Below.refl _ _⟩
 subst hl;have Ha:=Lv hna;have Hb:=Lv hnb;have aq:(na:Int)<=1000000:=by omega
 clear hna hnb hla;obtain⟨S,l⟩:∃S,S=(λW=>Rd W A (ZH a)/\Rd W B (ZH b)/\(∀x∈a,MtOk W x)/\(∀x∈b,MtOk W x)/\Below w.heap.size w W):=⟨_,rfl⟩;have z:St S:=by rw[l];infer_instance
 have aa:Hid (∀W,S W->Rd W A (ZH a)):=by show ∀W,_;rw[l];exact λW h=>h.1
 have ab:Hid (∀W,S W->Rd W B (ZH b)):=by show ∀W,_;rw[l];exact λW h=>h.2.1
 have ah:Hid (∀W,S W->∀x∈a,MtOk W x):=by show ∀W,_;rw[l];exact λW h=>h.2.2.1
 have ai:Hid (∀W,S W->∀x∈b,MtOk W x):=by show ∀W,_;rw[l];exact λW h=>h.2.2.2.1
 have ac:Hid (∀W,S W->Below w.heap.size w W):=by show ∀W,_;rw[l];exact λW h=>h.2.2.2.2
 have g:S w:=by rw[l];exact⟨ha,hb,hoa,hob,Below.refl _ _⟩
 clear l ha hb hoa hob;go_enter Tryz.func81,Tryz.ntmps81
 go_wp2
 go_loopw [17] (λi wr=>∃k:Nat,i=.int .i64 (k:Int)/\k<=na/\Hid ((a.take k).map MtV.m=(b.take k).map MtV.m)/\S wr) (λi _=>na-(intOf i).toNat)
 case atStart=>exact⟨0,by simp,Nat.zero_le _,by simp[Hid],g⟩
 case round=>
  clear g;obtain⟨k,rfl,hk,Hk,g⟩:=hrel;by_cases am:k<na
  ·obtain⟨e,he⟩:∃e,a[k]? =some e:=⟨_,Ld (by have:=Ha.out;omega)⟩;obtain⟨f,hf⟩:∃f,b[k]? =some f:=⟨_,Ld (by have:=Hb.out;omega)⟩;obtain⟨ad,ak,_⟩:=KM (aa.out _ g) he;obtain⟨bd,al,_⟩:=KM (ab.out _ g) hf;subst ak al
   have q:Hid (∀W,S W->∀j u,e.cells[j]? =some u->W.cell? ((ad.add (k*8)).add j)=some u):=λW h=>by
    obtain⟨aj,p,h2⟩:=KM (aa.out _ h) he;injection p with p;subst p;exact h2
   have s:Hid (∀W,S W->∀j u,f.cells[j]? =some u->W.cell? ((bd.add (k*8)).add j)=some u):=λW h=>by
    obtain⟨aj,p,h2⟩:=KM (ab.out _ h) hf;injection p with p;subst p;exact h2
   have He:=Lv he;have Hf:=Lv hf;have t:=Lv (Li he);have v:=Lv (Li hf);have an:(k:Int)<(na:Int):=by omega
   have ao:IntKind.i64.wrap ((k:Int)+1)=(k:Int)+1:=IntWalk.i64_in _ (by omega);clear he hf;go_wp2_with (first| (refine Qn rfl 95 _ rfl (ad.add (k*8)) rfl e.cells _ (q.out _ g) Tryz.underlying95 rfl (by kernel_rfl) ?_)| (refine Qs _ rfl ?_))
   refine Stop.to ?_;refine Qi rfl 95 rfl _ _ (VL _) rfl ?_;intro G Gw Gh Gr Gb;go_wp2_with (refine Qk _ _ _ rfl ?_)
   refine Stop.to ?_;refine Qh rfl 95 _ _ rfl G e.cells.toArray rfl rfl 95 _ Gr (by kernel_rfl) rfl (Adj _) ?_;intro Gx Gs Go;have Gc:=(Gb.mono Gh).trans (Go.below Gh);clear Gb Gr Go;replace g:=z.go g Gc;go_wp2_with (first| (refine Qn rfl 95 _ rfl (bd.add (k*8)) rfl f.cells _ (s.out _ g) Tryz.underlying95 rfl (by kernel_rfl) ?_)| (refine Qs _ rfl ?_))
   refine Stop.to ?_;refine Qi rfl 95 rfl _ _ (VL _) rfl ?_;intro J Jw Jh Jr Jb;go_wp2_with (refine Qk _ _ _ rfl ?_)
   refine Stop.to ?_;refine Qh rfl 95 _ _ rfl J f.cells.toArray rfl rfl 95 _ Jr (by kernel_rfl) rfl (Adj _) ?_;intro Jx Js Jo;have Jc:=(Jb.mono Jh).trans (Jo.below Jh);clear Jb Jr Jo;replace g:=z.go g Jc;have rG:=Gs.below Jc Gs.lt;have o:=Lv (Af1 e f Jx (ah.out _ g e t.out) (ai.out _ g f v.out));clear Gs Gh Gc Jh Jc;go_wp2_with (first| (refine wpList_load_row rfl 95 _ rfl G rfl 95 e.cells.toArray (0,0) _ rG Tryz.underlying95 rfl (by kernel_rfl) ?_)| (refine wpList_load_row rfl 95 _ rfl J rfl 95 f.cells.toArray (0,0) _ Js Tryz.underlying95 rfl (by kernel_rfl) ?_))
   refine o.out.mono ?_;rintro e' w1 ⟨rfl,b1⟩;replace g:=z.go g b1;clear o b1 rG Js;by_cases n:e.m=f.m
   ·have hd:Kf e.m f.m=true:=sameM_iff.2 n;rw[hd];clear hd;have ag:=Lv (Ky (f:=MtV.m) Hk.out He.out Hf.out n);clear q s He Hf Hk n t v;go_wp2
    go_roundw
    case rel=>exact⟨k+1,by go_num,by omega,ag,g⟩
    case measure=>simp[intOf];omega
   ·have hd:Kf e.m f.m=false:=by
      cases h:Kf e.m f.m
      ·rfl
      ·exact absurd (sameM_iff.1 h) n
    rw[hd];clear hd
    have y:Hid (decide (a.map MtV.m=b.map MtV.m)=false):=by
     show _=_;have:=Xy (f:=MtV.m) He.out Hf.out n;simp[this]
    clear q s He Hf Hk n t v;go_wp2
    go_ret
    exact⟨QD y.out,ac.out _ g⟩
  ·obtain rfl:k=na:=by omega
   have af:Hid (decide (a.map MtV.m=b.map MtV.m)=true):=by
    show _=_;have p:=Hk.out;rw[Lm (by have:=Ha.out;omega),Lm (by have:=Hb.out;omega)]at p;simp[p]
   clear am hk Hk;go_wp2
   go_ret
   exact⟨QD af.out,ac.out _ g⟩
theorem Aa5 (A B:Option Addr)(c d na nb:Nat)(a b:List MtV)(w:World)(hna:na=a.length)(hnb:nb=b.length)(ha:Rd w A (ZH a))(hb:Rd w B (ZH b))(hoa:∀x∈a,MtOk w x)(hob:∀x∈b,MtOk w x)(hla:a.length<=1000000):
 Calls Tryz.prog 54 #[.slice A na c,.slice B nb d] w λe w'=>e=.returned (.bool (decide (a.map MtV.m=b.map MtV.m)))/\Below w.heap.size w w':=by
 by_cases hl:na=nb;rotate_left
 ·have ao:((na:Int) != (nb:Int))=true:=by simp;omega
  have ac:a.map MtV.m≠b.map MtV.m:=λe=>hl (by rw[hna,hnb];simpa using congrArg List.length e)
  have v:Hid (decide (a.map MtV.m=b.map MtV.m)=false):=by show _=_;simp[ac]
  clear hl hna hnb ac ha hb hla hoa hob;go_enter Tryz.func54,Tryz.ntmps54
  go_wp2
  go_ret
  exact⟨QD v.out,Below.refl _ _⟩
 subst hl;have Ha:=Lv hna;have Hb:=Lv hnb;have ap:(na:Int)<=1000000:=by omega
 clear hna hnb hla;obtain⟨S,g⟩:∃S,S=(λW=>Rd W A (ZH a)/\Rd W B (ZH b)/\(∀x∈a,MtOk W x)/\(∀x∈b,MtOk W x)/\Below w.heap.size w W):=⟨_,rfl⟩;have aq:St S:=by rw[g];infer_instance
 have z:Hid (∀W,S W->Rd W A (ZH a)):=by show ∀W,_;rw[g];exact λW h=>h.1
 have aa:Hid (∀W,S W->Rd W B (ZH b)):=by show ∀W,_;rw[g];exact λW h=>h.2.1
 have ag:Hid (∀W,S W->∀x∈a,MtOk W x):=by show ∀W,_;rw[g];exact λW h=>h.2.2.1
 have ah:Hid (∀W,S W->∀x∈b,MtOk W x):=by show ∀W,_;rw[g];exact λW h=>h.2.2.2.1
 have ab:Hid (∀W,S W->Below w.heap.size w W):=by show ∀W,_;rw[g];exact λW h=>h.2.2.2.2
 have n:S w:=by rw[g];exact⟨ha,hb,hoa,hob,Below.refl _ _⟩
 clear g ha hb hoa hob;go_enter Tryz.func54,Tryz.ntmps54
 go_wp2
 go_loopw [5] (λi wr=>∃k:Nat,i=.int .i64 (k:Int)/\k<=na/\Hid ((a.take k).map MtV.m=(b.take k).map MtV.m)/\S wr) (λi _=>na-(intOf i).toNat)
 case atStart=>exact⟨0,by simp,Nat.zero_le _,by simp[Hid],n⟩
 case round=>
  clear n;obtain⟨k,rfl,hk,y,n⟩:=hrel;by_cases al:k<na
  ·obtain⟨e,he⟩:∃e,a[k]? =some e:=⟨_,Ld (by have:=Ha.out;omega)⟩;obtain⟨f,hf⟩:∃f,b[k]? =some f:=⟨_,Ld (by have:=Hb.out;omega)⟩;obtain⟨ad,aj,_⟩:=KM (z.out _ n) he;obtain⟨bd,ak,_⟩:=KM (aa.out _ n) hf;subst aj ak
   have p:Hid (∀W,S W->∀j u,e.cells[j]? =some u->W.cell? ((ad.add (k*8)).add j)=some u):=λW h=>by
    obtain⟨ai,o,h2⟩:=KM (z.out _ h) he;injection o with o;subst o;exact h2
   have q:Hid (∀W,S W->∀j u,f.cells[j]? =some u->W.cell? ((bd.add (k*8)).add j)=some u):=λW h=>by
    obtain⟨ai,o,h2⟩:=KM (aa.out _ h) hf;injection o with o;subst o;exact h2
   have He:=Lv he;have Hf:=Lv hf;have s:=Lv (Li he);have t:=Lv (Li hf);have am:(k:Int)<(na:Int):=by omega
   have an:IntKind.i64.wrap ((k:Int)+1)=(k:Int)+1:=IntWalk.i64_in _ (by omega);clear he hf;go_wp2
   refine QG S (by kernel_rfl) (by kernel_rfl) (St.drew n) ?_;clear n
   iterate 3 (refine Qe rfl ?_ (λW hW=>?_) ?_;rotate_left;(focus(go_simp;exact rfl));simp only[Act.put,Qa,Qb,Qc])
   (refine QW rfl 95 _ rfl ((ad.add (k*8))) rfl e.cells _ p.out Tryz.underlying95 rfl (by kernel_rfl) ?_;simp only[Act.put,Qa,Qb,Qc])
   iterate 3 (refine Qe rfl ?_ (λW hW=>?_) ?_;rotate_left;(focus(go_simp;exact rfl));simp only[Act.put,Qa,Qb,Qc])
   (refine QW rfl 95 _ rfl ((bd.add (k*8))) rfl f.cells _ q.out Tryz.underlying95 rfl (by kernel_rfl) ?_;simp only[Act.put,Qa,Qb,Qc]);(refine QA rfl 126 _ (λW=>by(go_simp;try rfl)) (.bool (Kf e.m f.m)) (λW hW=>AbP e f W (ag.out _ hW e s.out) (ah.out _ hW f t.out)) ?_;simp only[Act.put,Qa,Qb,Qc])
   (refine Qe rfl ?_ (λW hW=>?_) ?_;rotate_left;(focus(go_simp;exact rfl));simp only[Act.put,Qa,Qb,Qc]);refine QE λW n=>?_
   by_cases l:e.m=f.m
   ·have hd:Kf e.m f.m=true:=sameM_iff.2 l;rw[hd];clear hd;have af:=Lv (Ky (f:=MtV.m) y.out He.out Hf.out l);clear p q He Hf y l s t;go_wp2
    go_roundw
    case rel=>exact⟨k+1,by go_num,by omega,af,n⟩
    case measure=>simp[intOf];omega
   ·have hd:Kf e.m f.m=false:=by
      cases h:Kf e.m f.m
      ·rfl
      ·exact absurd (sameM_iff.1 h) l
    rw[hd];clear hd
    have v:Hid (decide (a.map MtV.m=b.map MtV.m)=false):=by
     show _=_;have:=Xy (f:=MtV.m) He.out Hf.out l;simp[this]
    clear p q He Hf y l s t;go_wp2
    go_ret
    exact⟨QD v.out,ab.out _ n⟩
  ·obtain rfl:k=na:=by omega
   have ae:Hid (decide (a.map MtV.m=b.map MtV.m)=true):=by
    show _=_;have o:=y.out;rw[Lm (by have:=Ha.out;omega),Lm (by have:=Hb.out;omega)]at o;simp[o]
   clear al hk y;go_wp2
   go_ret
   exact⟨QD ae.out,ab.out _ n⟩
def AaM{α:Type}(p:α->Bool)(l:List α):Int:=match l.findIdx? p with|some i=>(i:Int)|none=> -1
theorem YL{α:Type}{p:α->Bool}{l:List α}{k:Nat}{x:α}(h:∀y∈l.take k,p y=false)(hx:l[k]? =some x)(hp:p x=true):AaM p l=(k:Int):=by
 unfold AaM;have a:=(Lf.1 hx).1
 have:l.findIdx? p=some k:=by
  rw[List.findIdx?_eq_some_iff_getElem];refine⟨a,by rw[(Lf.1 hx).2];exact hp,λj b=>?_⟩;rw[h _ (List.mem_take_iff_getElem.2 ⟨j,by omega,rfl⟩)];simp
 rw[this]
theorem U3{α:Type}{p:α->Bool}{l:List α}(h:∀y∈l,p y=false):AaM p l= -1:=by
 unfold AaM;have:l.findIdx? p=none:=by rw[List.findIdx?_eq_none_iff];exact h
 rw[this]
theorem YK{α:Type}(p:α->Bool)(l:List α):decide (0<=AaM p l)=l.any p:=by
 unfold AaM;cases h:l.findIdx? p with
 |none=>
  rw[List.findIdx?_eq_none_iff]at h;simp;intro x c;simpa using h x c
 |some i=>
  rw[List.findIdx?_eq_some_iff_getElem]at h;obtain⟨a,b,_⟩:=h;simp;exact⟨l[i],List.getElem_mem a,b⟩
theorem JA{α:Type}{p:α->Bool}{l:List α}{k:Nat}{x:α}(h:∀y∈l.take k,p y=false)(hx:l[k]? =some x)(hp:p x=false):∀y∈l.take (k+1),p y=false:=by
 rw[L5,hx];intro y a;rcases LG.1 a with a|a
 ·exact h y a
 ·simp at a;subst a;exact hp
theorem AhP (A:Option Addr)(cap:Nat)(l:List Nd)(p:Nd->Bool)(w:World)(S:World->Prop)[stS:St S](hS:S w)(hrd:∀W,S W->Rd W A (l.flatMap Nd.cells))(hlo:∀W,S W->Below w.heap.size w W)
 (hp:∀x∈l,∀W,S W->Calls Tryz.prog 197 #[.agg x.cells.toArray] W λe W'=>e=.returned (.bool (p x))/\Below W.heap.size W W') (hl:l.length<=1000000):
 Calls Tryz.prog 239 #[.slice A l.length cap,.func (.func 197) #[] #[]] w λe w'=>e=.returned (.int .i64 (AaM p l))/\Below w.heap.size w w':=by
 have Hp:=Lv hp;have q:=Lv hrd;have h:=Lv hlo;have aa:(l.length:Int)<=1000000:=by omega
 clear hp hrd hlo hl;go_enter Tryz.func239,Tryz.ntmps239
 go_wp2
 go_loopw [8] (λi wr=>∃k:Nat,i=.int .i64 (k:Int)/\k<=l.length/\Hid (∀y∈l.take k,p y=false)/\S wr) (λi _=>l.length-(intOf i).toNat)
 case atStart=>exact⟨0,rfl,Nat.zero_le _,Lv (λx d=>by simp at d),hS⟩
 case round=>
  clear hS;obtain⟨k,rfl,hk,a,hS⟩:=hrel;by_cases c:k<l.length
  ·obtain⟨x,d⟩:∃x,l[k]? =some x:=⟨_,Ld c⟩;obtain⟨t,s,n⟩:=JG (q.out _ hS) d;have g:Hid (∀j u,x.cells[j]? =some u->wr.cell? ((t.add (k*2)).add j)=some u):=n;have o:=Lv d;have b:=Lv (Hp.out x (Li d) wr hS);have z:(k:Int)<(l.length:Int):=by omega
   clear d c n;subst s;go_wp2_with (refine Qn rfl 52 _ rfl (t.add (k*2)) rfl x.cells _ g.out Tryz.underlying52 rfl (by kernel_rfl) ?_)
   refine b.out.mono ?_;rintro e w' ⟨rfl,v⟩;replace hS:=stS.go hS v;clear v b g;cases hs:p x
   ·have m:=Lv (JA a.out o.out hs);clear hs o;go_wp2_with fail
    go_roundw
    case rel=>exact⟨k+1,by go_num,by omega,m,hS⟩
    case measure=>simp[intOf];omega
   ·have m:=Lv (YL a.out o.out hs);clear hs o;go_wp2_with fail
    go_ret
    exact⟨by rw[m.out];rfl,h.out _ hS⟩
  ·obtain rfl:k=l.length:=by omega
   have m:=Lv (U3 (p:=p) (l:=l) (by have:=a.out;rwa[LO]at this));clear c hk;go_wp2
   go_ret
   exact⟨by rw[m.out];rfl,h.out _ hS⟩
theorem Aft (A:Option Addr)(cap:Nat)(l:List Nd)(p:Nd->Bool)(w:World)(S:World->Prop)[stS:St S](hS:S w)(hrd:∀W,S W->Rd W A (l.flatMap Nd.cells))(hlo:∀W,S W->Below w.heap.size w W)
 (hp:∀x∈l,∀W,S W->Calls Tryz.prog 197 #[.agg x.cells.toArray] W λe W'=>e=.returned (.bool (p x))/\Below W.heap.size W W') (hl:l.length<=1000000):
 Calls Tryz.prog 196 #[.slice A l.length cap,.func (.func 197) #[] #[]] w λe w'=>e=.returned (.bool (l.any p))/\Below w.heap.size w w':=by
 have a:=Lv (AhP A cap l p w S hS hrd hlo hp hl);clear hp hrd hlo hl hS;go_enter Tryz.func196,Tryz.ntmps196
 go_wp2_with fail
 refine a.out.mono ?_;rintro e w' ⟨rfl,c⟩;have b:=Lv (YK p l);clear a;go_wp2_with fail
 go_ret
 exact⟨QD b.out.symm,c⟩
theorem Afm (x:Nd)(w:World):
 Calls Tryz.prog 197 #[.agg x.cells.toArray] w λe w'=>e=.returned (.bool (decide (Qy x<0)))/\Below w.heap.size w w':=by
 go_enter Tryz.func197,Tryz.ntmps197
 go_wp2_with (refine Qx _ _ rfl ?_)
 refine Stop.to ?_;refine Qf rfl 52 _ rfl x.cells.toArray rfl ?_;intro G i c d b;have a:=(Below.refl w.heap.size w).trans (b.mono c);have g:=Lv (XN x i);clear b c;go_wp2_with (refine wpList_load_row rfl 52 _ rfl G rfl 52 x.cells.toArray (0,0) _ d Tryz.underlying52 rfl (by kernel_rfl) ?_)
 refine g.out.mono ?_;rintro e k ⟨rfl,h⟩;have j:=a.trans (h.mono a.size);clear g d a h;go_wp2_with fail
 go_ret
 exact⟨rfl,j⟩
structure CpV where
 p:PgV
 tA:Option Addr
 tcap:Nat
 tests:List IntsV
 fuel:Int
 mA:Option Addr
 mcap:Nat
 mts:List MtV
 sc:Sc
def CpV.cells (c:CpV):Array Value:=#[.int .i64 c.p.params,.slice c.p.va c.p.V.length c.p.vcap,.slice c.p.ba c.p.body.length c.p.bcap,.slice c.tA c.tests.length c.tcap,.int .i64 c.fuel,.slice c.mA c.mts.length c.mcap,.int .i64 c.sc.alive,.int .i64 c.sc.killed,.int .i64 c.sc.timeout]
structure CpOk (W:World)(c:CpV):Prop where
 pok:c.p.ok W
 bl:c.p.body.length<=1000
 vl:c.p.V.length<=1000
 trd:Rd W c.tA (ZU c.tests)
 tok:∀x∈c.tests,x.ok W
 tlen:c.tests.length<=1000
 tl:∀x∈c.tests,x.l.length<=1000
 tnil:c.tA=none->c.tests=[]
 mrd:Rd W c.mA (ZH c.mts)
 mok:∀x∈c.mts,MtOk W x
 mlen:c.mts.length<=100000
 mnil:c.mA=none->c.mts=[]
theorem CpOk.go{W W':World}{c:CpV}(h:CpOk W c)(b:Below W.heap.size W W'):CpOk W' c:=
 ⟨h.pok.go b,h.bl,h.vl,h.trd.go b,λx hx=>(h.tok x hx).go b,h.tlen,h.tl,h.tnil,h.mrd.go b,λx hx=>(h.mok x hx).go b,h.mlen,h.mnil⟩
instance St.cpok{c:CpV}:St (λW=>CpOk W c):=⟨λh b=>h.go b⟩
def KN (p q:PgV):Bool:=decide (p.params=q.params/\p.V=q.V/\p.body=q.body)
def CpV.testsL (c:CpV):List (List Int):=c.tests.map IntsV.l
def CpV.muts (c:CpV):List Mt:=c.mts.map MtV.m
theorem Aii{p q:PgV}(h:¬p.params=q.params):KN p q=false:=by unfold KN;simp[h]
theorem AcM{p q:PgV}(h:¬p.V=q.V):KN p q=false:=by unfold KN;simp[h]
theorem Aik{p q:PgV}(h:p.params=q.params)(h2:p.V=q.V):KN p q=decide (p.body=q.body):=by unfold KN;simp[h,h2]
theorem AlM{p q:PgV}{b:Bool}(h2:p.V=q.V)(h3:p.body=q.body)(h:(p.params==q.params)=b):KN p q=b:=by unfold KN;rw[<-h];simp[h2,h3];by_cases e:p.params=q.params<;>simp[e]
theorem Aij{p q:PgV}(h:¬p.body=q.body):KN p q=false:=by unfold KN;simp[h]
theorem Agb (p q:PgV)(w:World)(hx:p.ok w)(hy:q.ok w)(hpl:p.body.length<=1000)(hvl:p.V.length<=1000):
 Calls Tryz.prog 79 #[.agg p.cells,.agg q.cells] w λe w'=>e=.returned (.bool (KN p q))/\Below w.heap.size w w':=by
 have Ha:=Lv hx;have Hb:=Lv hy;clear hx hy;go_enter Tryz.func79,Tryz.ntmps79
 go_wp2_with (refine Qx _ _ rfl ?_)
 refine Stop.to ?_;refine Qf rfl 25 _ rfl p.cells rfl ?_;intro G Gw u l t;go_wp2_with (refine Qx _ _ rfl ?_)
 refine Stop.to ?_;refine Qf rfl 25 _ rfl q.cells rfl ?_;intro J Jw n b m;have a:=l.below m (Lg l.lt n);have b1:=(Below.refl w.heap.size w).trans (t.mono u);have c:=b1.trans ((m.mono n).mono b1.size);have c0:=a.cellv (i:=0) (v:=.int .i64 p.params) rfl;have c1:=a.cellv (i:=1) (v:=.slice p.va p.V.length p.vcap) rfl;have x:=a.cellv (i:=2) (v:=.slice p.ba p.body.length p.bcap) rfl;have d0:=b.cellv (i:=0) (v:=.int .i64 q.params) rfl;have d1:=b.cellv (i:=1) (v:=.slice q.va q.V.length q.vcap) rfl;have y:=b.cellv (i:=2) (v:=.slice q.ba q.body.length q.bcap) rfl;by_cases s:p.params=q.params;rotate_left
 ·clear l t u m n b a;go_wp2_with fail
  go_ret
  exact⟨QD (Aii s),c⟩
 have H1:=Lv s;have aa:(p.params==q.params)=true:=by simpa using s
 clear s;have Hv:=Lv (AaC p.va q.va p.vcap q.vcap _ _ p.V q.V Jw rfl rfl (Ha.out.go c).vrd (Hb.out.go c).vrd (by omega));have z:=b;clear l t u m n b;go_wp2_with fail
 refine Hv.out.mono ?_;rintro e w1 ⟨rfl,o⟩;have d:=c.trans (o.mono c.size);have j:=a.below o a.lt;have k:=z.below o z.lt;clear Hv o c0 c1 x d0 d1 y a z;have x:=j.cellv (i:=2) (v:=.slice p.ba p.body.length p.bcap) rfl;have y:=k.cellv (i:=2) (v:=.slice q.ba q.body.length q.bcap) rfl;by_cases g:p.V=q.V;rotate_left
 ·have h:decide (p.V=q.V)=false:=by simp[g]
  rw[h];clear h;go_wp2_with fail
  go_ret
  exact⟨QD (AcM g),d⟩
 have H2:=Lv g;have h:decide (p.V=q.V)=true:=by simp[g]
 rw[h];clear h g;have Hn:=Lv (Ad7 p.ba q.ba p.bcap q.bcap _ _ p.body q.body w1 rfl rfl (Ha.out.go d).brd (Hb.out.go d).brd (by omega));clear j k;go_wp2_with fail
 refine Hn.out.mono ?_;rintro e w2 ⟨rfl,b5⟩;have b6:=d.trans (b5.mono d.size);clear Hn b5 x y;go_wp2_with fail
 go_ret
 exact⟨QD (by rw[Aik H1.out H2.out]),b6⟩
theorem AbQ (p q:PgV)(w:World)(hx:p.ok w)(hy:q.ok w)(hpl:p.body.length<=1000)(hvl:p.V.length<=1000):
 Calls Tryz.prog 52 #[.agg p.cells,.agg q.cells] w λe w'=>e=.returned (.bool (KN p q))/\Below w.heap.size w w':=by
 have Ha:=Lv hx;have Hb:=Lv hy;clear hx hy;go_enter Tryz.func52,Tryz.ntmps52
 go_wp2_with (refine Qx _ _ rfl ?_)
 refine Stop.to ?_;refine Qf rfl 25 _ rfl p.cells rfl ?_;intro G Gw Gh u Gb;go_wp2_with (refine Qx _ _ rfl ?_)
 refine Stop.to ?_;refine Qf rfl 25 _ rfl q.cells rfl ?_;intro J Jw y h x;have c:=u.below x (Lg u.lt y);have b1:=(Below.refl w.heap.size w).trans (Gb.mono Gh);have n:=b1.trans ((x.mono y).mono b1.size);have c0:=c.cellv (i:=0) (v:=.int .i64 p.params) rfl;have c1:=c.cellv (i:=1) (v:=.slice p.va p.V.length p.vcap) rfl;have c2:=c.cellv (i:=2) (v:=.slice p.ba p.body.length p.bcap) rfl;have d0:=h.cellv (i:=0) (v:=.int .i64 q.params) rfl;have d1:=h.cellv (i:=1) (v:=.slice q.va q.V.length q.vcap) rfl;have d2:=h.cellv (i:=2) (v:=.slice q.ba q.body.length q.bcap) rfl;have Hv:=Lv (EK p.va q.va p.vcap q.vcap _ _ p.V q.V Jw rfl rfl (Ha.out.go n).vrd (Hb.out.go n).vrd (by omega));have rJ:=h;clear u Gb Gh x y h;go_wp2_with fail
 refine Hv.out.mono ?_;rintro e w1 ⟨rfl,o⟩;have s:=n.trans (o.mono n.size);have a:=c.below o c.lt;have b:=rJ.below o rJ.lt;clear Hv o c0 c1 c2 d0 d1 d2 c rJ;have c2:=a.cellv (i:=2) (v:=.slice p.ba p.body.length p.bcap) rfl;have d2:=b.cellv (i:=2) (v:=.slice q.ba q.body.length q.bcap) rfl;have Hn:=Lv (Aa6 p.ba q.ba p.bcap q.bcap _ _ p.body q.body w1 rfl rfl (Ha.out.go s).brd (Hb.out.go s).brd (by omega));generalize k:decide (p.V=q.V)=vv;have g:=Lv k;clear k;go_wp2_with fail
 refine Hn.out.mono ?_;rintro e w2 ⟨rfl,t⟩;have z:=s.trans (t.mono s.size);have l:=a.below t a.lt;have m:=b.below t b.lt;clear Hn t c2 d2 a b;have c0:=l.cellv (i:=0) (v:=.int .i64 p.params) rfl;have d0:=m.cellv (i:=0) (v:=.int .i64 q.params) rfl;generalize j:decide (p.body=q.body)=bb;have d:=Lv j;clear j l m;cases vv
 ·go_wp2_with fail
  go_ret
  exact⟨QD (AcM (of_decide_eq_false g.out)),z⟩
 cases bb
 ·go_wp2_with fail
  go_ret
  exact⟨QD (Aij (of_decide_eq_false d.out)),z⟩
 ·go_wp2_with fail
  go_ret
  exact⟨QD (AlM (of_decide_eq_true g.out) (of_decide_eq_true d.out) rfl),z⟩
theorem Agk (A B:Option Addr)(c d:Nat)(a b:List IntsV)(w:World)(ha:Rd w A (ZU a))(hb:Rd w B (ZU b))(hoa:∀x∈a,x.ok w)(hob:∀x∈b,x.ok w)(hla:a.length<=1000000)(hsa:∀x∈a,x.l.length<=1000000):
 Calls Tryz.prog 80 #[.slice A a.length c,.slice B b.length d] w λe w'=>e=.returned (.bool (decide (a.map IntsV.l=b.map IntsV.l)))/\Below w.heap.size w w':=by
 have g:=Lv (Ad8 A B c d _ _ a b w rfl rfl ha hb hoa hob hla hsa);clear ha hb hoa hob hla hsa;go_enter Tryz.func80,Tryz.ntmps80
 go_wp2_with fail
 refine g.out.mono ?_;rintro e i ⟨rfl,h⟩;go_wp2_with fail
 go_ret
 exact⟨rfl,h⟩
end Go.Proofs.YtgnmkiafeplbpaaGreatDoor
