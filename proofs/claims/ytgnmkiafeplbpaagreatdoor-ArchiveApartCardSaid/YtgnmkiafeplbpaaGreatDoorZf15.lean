/- Lemmas for ArAll. -/
import Derived.Test.YtgnmkiafeplbpaaGreatDoorZf1
import Derived.Test.YtgnmkiafeplbpaaGreatDoorZf14
import Derived.Test.YtgnmkiafeplbpaaGreatDoorZf7
import Derived.Test.YtgnmkiafeplbpaaGreatDoorZf10
set_option linter.unusedVariables false
set_option linter.unusedSimpArgs false
set_option maxRecDepth 100000
set_option maxHeartbeats 16000000
namespace Go.Proofs.YtgnmkiafeplbpaaGreatDoor
open Go.RowKit Go.Deep
theorem Adm (d:Array Int)(cs:Array Value)(h:cs.size=d.size):Sort.putCells (Value.int .i64) 0 d cs=d.map (Value.int .i64):=by
 unfold Sort.putCells;apply Array.ext
 ·simp[h]
 ·intro i c a;have b:i<d.size:=by simpa using a
  simp[b]
theorem EB{w:World}{g:Nat}{t:TypeId}{cs:Array Value}(hr:Row w g t cs)(d:Array Int)(h:cs.size=d.size):Row (Sort.putRow (Value.int .i64) w g 0 d) g t (d.map (Value.int .i64))/\Only g w (Sort.putRow (Value.int .i64) w g 0 d):=by
 unfold Sort.putRow Sort.mapBlock;refine⟨?_,rfl,rfl,rfl,by simp,λk a=>?_⟩
 ·show(w.heap.modify g _)[g]? =_;rw[Na,if_pos rfl,show w.heap[g]? =some (.cells cs t (0,0))from hr];simp[Sort.onCells,Adm d cs h]
 ·show(w.heap.modify g _)[k]? =_;rw[Na,if_neg (Ne.symm a)]
theorem Aco{w:World}{g:Nat}{t:TypeId}{l:List Int}(hr:Row w g t (Qj l).toArray):Sort.Holds (Value.int .i64) w g 0 l.toArray:=λj hj=>by
 have a:j<l.length:=by simpa using hj
 refine⟨?_,by have:=hr.free (0+j);exact this⟩;have:=hr.cellv (i:=j) (v:=.int .i64 l[j]) (by simp[Qj,a]);rw[LS,this];simp[a]
theorem Aeo (l:List Int):l.toArray.map (Value.int .i64)=(Qj l).toArray:=by simp[Qj]
structure OnRow (g:Nat)(w w':World):Prop where
 gr:w.grownBy w' (some g)
theorem OnRow.trans{g:Nat}{a b c:World}(h:OnRow g a b)(k:OnRow g b c):OnRow g a c:=⟨⟨k.gr.os.trans h.gr.os,k.gr.tape.trans h.gr.tape,k.gr.output.trans h.gr.output,Lj h.gr.size k.gr.size,λi hi hx=>(k.gr.block i (Lg hi h.gr.size) hx).trans (h.gr.block i hi hx)⟩⟩
theorem OnRow.of_below{g:Nat}{a b:World}(h:Below a.heap.size a b):OnRow g a b:=⟨⟨h.os,h.tape,h.output,h.size,λi hi _=>h.block i hi⟩⟩
theorem OnRow.of_only{g:Nat}{a b:World}(h:Only g a b):OnRow g a b:=⟨⟨h.os,h.tape,h.output,LI h.size.symm,λi _ hx=>h.block i (λe=>hx (by rw[e]))⟩⟩
theorem OnRow.below{g B:Nat}{a b:World}(h:OnRow g a b)(hg:B<=g)(hB:B<=a.heap.size):Below B a b:=⟨h.gr.os,h.gr.tape,h.gr.output,h.gr.size,λi hi=>h.gr.block i (by omega) (λe=>by injection e;omega)⟩
theorem OnRow.row{g k:Nat}{a b:World}{t:TypeId}{cs:Array Value}(h:OnRow g a b)(hr:Row a k t cs)(hk:k≠g):Row b k t cs:=(h.gr.block k hr.lt (λe=>hk (by injection e))).trans hr
theorem Ain (g cap:Nat)(l:List Int)(w:World)(hr:Row w g 3 (Qj l).toArray)(hl:l.length<=1000):
 Calls Tryz.prog 298 #[.slice (some ⟨g,0,none⟩) l.length cap] w λe w'=>e=.returned (.tuple #[])/\Row w' g 3 (Qj (l.mergeSort λx y=>decide (x<=y))).toArray/\OnRow g w w':=by
 refine(slices_Sort_int g 0 cap l w (Aco hr) hr.lt (by omega)).mono ?_;rintro e w' ⟨rfl,n,b,rfl⟩;have d:Row (Sort.ahead w n) g 3 (Qj l).toArray:=hr.drewN n;obtain⟨a,h⟩:=EB d (l.mergeSort λx y=>decide (x<=y)).toArray (by simp[Qj]);rw[Aeo]at a;have i:Below w.heap.size w (Sort.ahead w n):=Jq (Below.refl _ _) n;have c:∀(W:World) (b:Array Obj),Below W.heap.size W (Sort.grow W b):=λW b=>⟨rfl,rfl,rfl,by simp[Sort.grow],λk j=>by simp[Sort.grow,Array.getElem?_append_left j]⟩;exact⟨rfl,a.below (c _ _) a.lt,(OnRow.of_below i).trans ((OnRow.of_only h).trans (OnRow.of_below (c _ _)))⟩
theorem Ac8 (g cap:Nat)(l:List Int)(w:World)(hr:Row w g 3 (Qj l).toArray)(hl:l.length<=1000)(hc:l.length<=cap):
 Calls Tryz.prog 299 #[.slice (some ⟨g,0,none⟩) l.length cap] w λe w'=>e=.returned (.slice (some ⟨g,0,none⟩) (Lib.compact l).length cap)/\Row w' g 3 (Qj (Lib.compact l++List.replicate (l.length-(Lib.compact l).length) 0)).toArray/\OnRow g w w':=by
 refine(slices_Compact_int g 0 cap l w (Aco hr) (by omega) hc).mono ?_;rintro e w' ⟨rfl,n,rfl⟩;have b:Row (Sort.ahead w n) g 3 (Qj l).toArray:=hr.drewN n
 have h:(Lib.compact l).length<=l.length:=by
  unfold Lib.compact Lib.compactUpTo;rw[L7];have:=Nu (Lib.keeps l.toArray) (List.range l.length);rwa[List.length_range]at this
 obtain⟨a,c⟩:=EB b (Lib.compact l++List.replicate (l.length-(Lib.compact l).length) 0).toArray (by simp[Qj];omega);rw[Aeo]at a;have d:Below w.heap.size w (Sort.ahead w n):=Jq (Below.refl _ _) n;exact⟨rfl,a,(OnRow.of_below d).trans (OnRow.of_only c)⟩
theorem AcD (b:Nat)(but x:Int)(w:World)(hr:Row w b 3 #[.int .i64 but]):
 Calls Tryz.prog 301 #[.int .i64 x,.pointer (some ⟨b,0,none⟩)] w λe w'=>e=.returned (.bool (x==but))/\w=w':=by
 have c:=hr.cellv (i:=0) (v:=.int .i64 but) rfl;go_enter Tryz.func301,Tryz.ntmps301
 go_wp2
 go_ret
 exact⟨rfl,rfl⟩
theorem AlK{l z:List Int}{k:Nat}{x:Int}(hlt:k<l.length)(hx:l[k]? =some x):(Qj (l++z)).toArray[k]? =some (.int .i64 x):=by
 have:(Qj (l++z))[k]? =some (.int .i64 x):=by rw[Xq,LQ (by rw[Xt];exact hlt)];simp[Qj,hx]
 simpa using this
theorem Abt{but:Int}{l:List Int}{k:Nat}{x:Int}(h:∀y∈l.take k,y≠but)(hx:l[k]? =some x)(hp:x≠but):∀y∈l.take (k+1),y≠but:=by
 rw[L5,hx];intro y a;rcases LG.1 a with a|a
 ·exact h y a
 ·simp at a;subst a;exact hp
theorem Ajt (g cap b:Nat)(but:Int)(l z:List Int)(w:World)(hr:Row w g 3 (Qj (l++z)).toArray)(hb:Row w b 3 #[.int .i64 but])(hl:l.length<=1000):
 Calls Tryz.prog 250 #[.slice (some ⟨g,0,none⟩) l.length cap,.func (.func 301) #[] #[.pointer (some ⟨b,0,none⟩)]] w λe w'=>((∃i:Nat,e=.returned (.int .i64 (i:Int))/\l[i]? =some but/\∀x∈l.take i,x≠but)\/(e=.returned (.int .i64 (-1))/\∀x∈l,x≠but))/\w=w':=by
 have u:=Lv hr;have s:=Lv hb;have aa:(l.length:Int)<=1000:=by omega
 clear hr hb hl;go_enter Tryz.func250,Tryz.ntmps250
 go_wp2
 go_loop [8] (λi=>∃k:Nat,i=.int .i64 (k:Int)/\k<=l.length/\Hid (∀x∈l.take k,x≠but)) (λi=>l.length-(intOf i).toNat)
 case atStart=>exact⟨0,rfl,Nat.zero_le _,Lv (λx j=>by simp at j)⟩
 case round=>
  obtain⟨k,rfl,y,a⟩:=hrel;by_cases d:k<l.length
  ·obtain⟨x,j⟩:∃x,l[k]? =some x:=⟨_,Ld d⟩;have p:=u.out.cellv (i:=k) (v:=.int .i64 x) (AlK d j);have m:=Lv j;have n:=Lv (AcD b but x w s.out);have q:(k:Int)<(l.length:Int):=by omega
   clear j d;go_wp2_with fail
   refine n.out.mono ?_;rintro e w' ⟨rfl,rfl⟩;by_cases h:x=but
   ·have c:(x==but)=true:=by simpa using h
    rw[c];have o:Hid (l[k]? =some but):=by show _=_;rw[m.out,h]
    clear h c n p m;go_wp2_with fail
    go_ret
    exact⟨.inl ⟨k,rfl,o.out,a.out⟩,rfl⟩
   ·have c:(x==but)=false:=by simpa using h
    rw[c];have t:=Lv (Abt a.out m.out h);clear h c n p m;go_wp2_with fail
    go_round
    case rel=>exact⟨k+1,by go_num,by omega,t⟩
    case measure=>simp[intOf];omega
  ·obtain rfl:k=l.length:=by omega
   have o:Hid (∀x∈l,x≠but):=by have:=a.out;rwa[LO]at this
   clear d y;go_wp2
   go_ret
   exact⟨.inr ⟨rfl,o.out⟩,rfl⟩
structure Del (but:Int)(l z:List Int)(k:Nat)(cs:List Int):Prop where
 size:cs.length=(l++z).length
 head:cs.take ((l.take k).filter (· != but)).length=(l.take k).filter (· != but)
 tail:cs.drop k=(l++z).drop k
theorem Del.get{but:Int}{l z:List Int}{k:Nat}{cs:List Int}(h:Del but l z k cs){x:Int}(hx:l[k]? =some x):cs[k]? =some x:=by
 have a:=(Lf.1 hx).1;have:=congrArg (λm:List Int=>m[0]?) h.tail;simp only[Ni,Nat.add_zero]at this;rw[this,LQ a,hx]
theorem Del.skip{but:Int}{l z:List Int}{k:Nat}{cs:List Int}(h:Del but l z k cs){x:Int}(hx:l[k]? =some x)(hb:x=but):Del but l z (k+1) cs/\((l.take (k+1)).filter (· != but)).length=((l.take k).filter (· != but)).length:=by
 have e:(l.take (k+1)).filter (· != but)=(l.take k).filter (· != but):=by rw[L5,hx,N1];simp[hb]
 refine⟨⟨h.size,by rw[e];exact h.head,?_⟩,by rw[e]⟩;have:=congrArg (λm:List Int=>m.drop 1) h.tail;simpa[Nf]using this
theorem Del.put{but:Int}{l z:List Int}{k:Nat}{cs:List Int}(h:Del but l z k cs){x:Int}(hx:l[k]? =some x)(hb:x≠but)(hlt:((l.take k).filter (· != but)).length<k):Del but l z (k+1) (cs.set ((l.take k).filter (· != but)).length x)/\((l.take (k+1)).filter (· != but)).length=((l.take k).filter (· != but)).length+1:=by
 have d:=(Lf.1 hx).1;have e:(l.take (k+1)).filter (· != but)=(l.take k).filter (· != but)++[x]:=by rw[L5,hx,N1];simp[hb]
 have c:=h.size;rw[La]at c;have b:=h.head;generalize a:((l.take k).filter (· != but)).length=n at*;refine⟨⟨by rw[List.length_set];exact h.size,?_,?_⟩,by rw[e,La,a];rfl⟩
 ·rw[e,La,a,Nb,L5,List.take_set_of_le (Nat.le_refl _),b];congr 1;rw[List.getElem?_set,if_pos rfl,if_pos (by omega)];rfl
 ·rw[List.drop_set_of_lt (by omega)];have:=congrArg (λm:List Int=>m.drop 1) h.tail;simpa[Nf]using this
theorem Del.start{but:Int}{l z:List Int}{i:Nat}(hi:l[i]? =some but)(hall:∀x∈l.take i,x≠but):Del but l z (i+1) (l++z)/\((l.take (i+1)).filter (· != but)).length=i:=by
 have c:=(Lf.1 hi).1
 have e:(l.take (i+1)).filter (· != but)=l.take i:=by
  rw[L5,hi,N1,List.filter_eq_self.2 (λx b=>by simpa using hall x b)];simp
 have a:(l.take i).length=i:=by rw[LH];omega
 refine⟨⟨rfl,?_,rfl⟩,by rw[e,a]⟩;rw[e,a,Np (by omega)]
theorem Ab2{g:Nat}{t:TypeId}:∀(n:Nat) {w:World} {cs:List Value} (o:Nat),Row w g t cs.toArray->o+n<=cs.length->∃cs':List Value,Row (w.setCells g o (List.replicate n (.int .i64 0))) g t cs'.toArray/\cs'.take o=cs.take o/\Only g w (w.setCells g o (List.replicate n (.int .i64 0)))
 |0,w,cs,o,h,_=>⟨cs,h,rfl,rfl,rfl,rfl,rfl,λ_ _=>rfl⟩
 |n+1,w,cs,o,h,hn=>by
  have h1:=h.set o (.int .i64 0)
  have o1:=Qu w g o (.int .i64 0)
  rw[show cs.toArray.setIfInBounds o (.int .i64 0)=(cs.set o (.int .i64 0)).toArray by simp]at h1
  obtain⟨cs',h2,h3,o2⟩:=Ab2 n (o+1) h1 (by simp;omega)
  refine⟨cs',h2,?_,⟨o2.os.trans o1.os,o2.tape.trans o1.tape,o2.output.trans o1.output,o2.size.trans o1.size,λk hk=>(o2.block k hk).trans (o1.block k hk)⟩⟩
  have:=congrArg (λm:List Value=>m.take o) h3
  simp only[List.take_take]at this
  rw[show min o (o+1)=o by omega,List.take_set_of_le (Nat.le_refl _)]at this
  exact this
theorem Abi{P:Program}{o:Oper}{w w1:World}{ρ:Operand->Value}{s:Operand}{t:TypeId}(ho:o.op=.call { callee:=.builtin .clear,args:=#[s],argTypes:=#[t] }){v:Value}(hv:(Builtin.clear_ #[t] o.type #[ρ s]).run P w=.ok v w1):(execOp ρ o).run P w=.ok (.value v) w1:=by
 unfold execOp;simp only[ho,resolve,invoke,builtin,Sem.run_bind,Sem.run_pure,Result.andThen_ok,Nw,No,List.map_nil,hv]
theorem Ajb (g cap b:Nat)(but:Int)(l z:List Int)(w:World)(hr:Row w g 3 (Qj (l++z)).toArray)(hb:Row w b 3 #[.int .i64 but])(hgb:b≠g)(hl:l.length<=1000)(hc:l.length<=cap)(hcm:cap<=maxLen):
 Calls Tryz.prog 300 #[.slice (some ⟨g,0,none⟩) l.length cap,.func (.func 301) #[] #[.pointer (some ⟨b,0,none⟩)]] w λe w'=>e=.returned (.slice (some ⟨g,0,none⟩) (l.filter (· != but)).length cap)/\OnRow g w w'/\∃cs:Array Value,Row w' g 3 cs/\∀(j:Nat) (u:Value),(Qj (l.filter (· != but)))[j]? =some u->cs[j]? =some u:=by
 have H1:=Lv (Ajt g cap b but l z w hr hb hl);have Hb:=Lv hb;have Hr:=Lv hr;have a7:(l.length:Int)<=1000:=by omega
 have a2:(l.length:Int)<=(cap:Int):=by omega
 have ay:(cap:Int)<=9223372036854775807:=by unfold maxLen at hcm;omega
 clear hb hr hl hcm;go_enter Tryz.func300,Tryz.ntmps300
 go_wp2_with fail
 refine H1.out.mono ?_;clear H1;rintro e w' ⟨ao,rfl⟩;rcases ao with⟨i,rfl,hi,d⟩|⟨rfl,d⟩;rotate_left
 ·have he:l.filter (· != but)=l:=List.filter_eq_self.2 (λx hx=>by simpa using d x hx);have He:=Lv he;clear he d;go_wp2_with fail
  go_ret
  refine⟨by rw[He.out];rfl,OnRow.of_below (Below.refl _ _),_,Hr.out,λj u t=>?_⟩;rw[He.out]at t;rw[Xq];simp only[List.getElem?_toArray];rw[LQ (Lf.1 t).1];exact t
 have a6:=(Lf.1 hi).1;obtain⟨aj,an⟩:=Del.start (z:=z) hi d;have hd:(l.take (i+1)).filter (· != but)=(l.take (i+1)).filter (· != but):=rfl;have aq:=Lv aj;have ah:=Lv an;have a5:(i:Int)<(l.length:Int):=by omega
 have a1:((i:Int)== -1)=false:=by simp
 clear d aj an hi hd;go_wp2_with fail
 go_loopw [5,6] (λa j wr=>∃(k:Nat) (cs:List Int),j=.int .i64 (k:Int)/\a=.int .i64 ((((l.take k).filter (· != but)).length:Nat):Int)/\k<=l.length/\((l.take k).filter (· != but)).length<k/\Hid (Del but l z k cs)/\Row wr g 3 (Qj cs).toArray/\OnRow g w wr) (λ_ j _=>l.length-(intOf j).toNat)
 case atStart=>exact⟨i+1,l++z,by go_num,by rw[ah.out],by omega,by rw[ah.out];omega,aq,Hr.out,OnRow.of_below (Below.refl _ _)⟩
 case round=>
  obtain⟨k,cs,rfl,rfl,hk,ak,Hd,c,h⟩:=hrel;by_cases ag:k<l.length
  ·obtain⟨x,hx⟩:∃x,l[k]? =some x:=⟨_,Ld ag⟩;have al:=Hd.out.get hx;have ai:=c.cellv (i:=k) (v:=.int .i64 x) (by simp[Qj,al]);have ac:=Lv (AcD b but x wr (h.row Hb.out hgb));have Hx:=Lv hx;have az:(k:Int)<(l.length:Int):=by omega
   clear hx ag al;go_wp2_with fail
   refine ac.out.mono ?_;rintro e w' ⟨rfl,rfl⟩;by_cases hs:x=but
   ·have s:(x==but)=true:=by simpa using hs
    rw[s];obtain⟨p,q⟩:=Hd.out.skip Hx.out hs;have ad:=Lv p;have o:=Lv q;clear hs s ac ai Hx p q;go_wp2_with fail
    go_roundw
    case rel=>exact⟨k+1,cs,by go_num,by rw[o.out],by omega,by rw[o.out];omega,ad,c,h⟩
    case measure=>simp[intOf];omega
   ·have s:(x==but)=false:=by simpa using hs
    rw[s];obtain⟨p,q⟩:=Hd.out.put Hx.out hs ak;generalize hn:((l.take k).filter (· != but)).length=n at*;have ad:=Lv p;have o:=Lv q;have aw:(n:Int)<(l.length:Int):=by omega
    have au:∃y,cs[n]? =some y:=⟨_,Ld (by have:=Hd.out.size;rw[La]at this;omega)⟩;obtain⟨y,hy⟩:=au;have a3:=c.cellv (i:=n) (v:=.int .i64 y) (by simp[Qj,hy]);have a4:=c.free n;have o9:=Qu wr g n (.int .i64 x);have r9:=c.set n (.int .i64 x);rw[show(Qj cs).toArray.setIfInBounds n (.int .i64 x)=(Qj (cs.set n x)).toArray by simp[Qj]]at r9;have ax:=h.trans (OnRow.of_only o9);clear hs s ac ai Hx p q hy hn o9 c h;go_wp2_with fail
    go_roundw
    case rel=>exact⟨k+1,cs.set n x,by go_num,by rw[o.out];go_num,by omega,by rw[o.out];omega,ad,r9,ax⟩
    case measure=>simp[intOf];omega
  ·obtain rfl:k=l.length:=by omega
   have ae:(l.take l.length).filter (· != but)=l.filter (· != but):=by rw[LO]
   rw[ae]at ak|-;have ap:=Hd.out.size;have af:=Hd.out.head;rw[ae]at af;rw[La]at ap;generalize hn:(l.filter (· != but)).length=n at*;have aw:(n:Int)<(l.length:Int):=by omega
   have a0:(n:Int)<=(cap:Int):=by omega
   obtain⟨ar,h2,h3,o2⟩:=Ab2 (l.length-n) (cs:=Qj cs) n c (by rw[Xt];omega)
   have ab:=Lib.run_clear_slice (P:=Tryz.prog) wr 22 3 0 (.int .i64 0) Tryz.underlying22 (λW=>by kernel_rfl) rfl rfl g n (l.length-n) (cap-n) (by omega) (λj t=>by
    have av:n+j<cs.length:=by omega
    rw[c.cellv (i:=n+j) (v:=.int .i64 cs[n+j]) (by simp[Qj,av])];rfl) (λj t=>c.free (n+j))
   have HF:Hid (OnRow g w (wr.setCells g n (List.replicate (l.length-n) (.int .i64 0)))/\∃cs:Array Value,Row (wr.setCells g n (List.replicate (l.length-n) (.int .i64 0))) g 3 cs/\∀(j:Nat) (u:Value),(Qj (l.filter (· != but)))[j]? =some u->cs[j]? =some u):=⟨h.trans (OnRow.of_only o2),_,h2,λj u t=>by
    have am:j<n:=by have:=(Lf.1 t).1;rw[Xt]at this;omega
    have e1:ar[j]? =(Qj cs)[j]? :=by
     have:=congrArg (λm:List Value=>m[j]?) h3
     simpa[List.getElem?_take,am]using this
    have e2:cs[j]? =(l.filter (· != but))[j]? :=by
     have:=congrArg (λm:List Int=>m[j]?) af
     simpa[List.getElem?_take,am]using this
    simp only[List.getElem?_toArray]
    rw[e1]
    simp only[Qj,LR]at t|-
    rw[e2];exact t⟩
   have aa:=Lv ab;clear ab h2 h3 o2 h c af ap Hd ae ag hk;generalize wr.setCells g n (List.replicate (l.length-n) (.int .i64 0))=w9 at HF aa;go_wp2_with (refine Zc rfl _ (Abi rfl aa.out) ?_)
   go_ret
   exact⟨by rw[hn];rfl,HF.out⟩
def IntB (W:World)(A:Option Addr):Prop:=∀a,A=some a->∃cs:Array Value,Row W a.block 3 cs
theorem IntB.go{W W':World}{A:Option Addr}(h:IntB W A)(b:Below W.heap.size W W'):IntB W' A:=λa e=>by
 obtain⟨d,c⟩:=h a e;exact⟨d,c.below b c.lt⟩
theorem AeL{w:World}{base n:Nat}{v:Value}{xs:List Value}{A:Option Addr}{m c:Nat}(h:w.ownsRow base 3 1 v n xs)(e:v=.slice A m c):IntB w A:=λa ha=>by
 rcases h.2 with⟨b,_⟩|⟨g,c,d,b,j,i,_⟩
 ·rw[e]at b;injection b with e3;rw[ha]at e3;cases e3
 ·rw[e]at b;injection b with e3;rw[ha]at e3;injection e3 with e3;rw[e3];exact⟨d,i⟩
structure IntsN (xs:List Int)(w w':World)(e:Ending):Prop where
 ex:∃A cap,e=.returned (.slice A xs.length cap)/\Rd w' A (Qj xs)/\(A=none->xs=[])/\Below w.heap.size w w'/\IntB w' A
def Ka (but:Int)(l:List Int):List Int:=(Xd l).filter (· != but)
theorem AeF (g cap B:Nat)(but:Int)(l:List Int)(w:World)(hr:Row w g 3 (Qj l).toArray)(hl:l.length<=1000)(hc:l.length<=cap)(hcm:cap<=maxLen)(hB:B<=g):
 Calls Tryz.prog 286 #[.int .i64 but,.slice (some ⟨g,0,none⟩) l.length cap] w λe w'=>∃A c,e=.returned (.slice A (Ka but l).length c)/\Rd w' A (Qj (Ka but l))/\(A=none->Ka but l=[])/\Below B w w'/\IntB w' A:=by
 have ab:=hr.lt;have Hr:=Lv hr;have Hl:=Lv hl;have Hc:=Lv hc;have z:=Lv hcm;clear hr hl hc hcm;go_enter Tryz.func286,Tryz.ntmps286
 go_wp2_with (refine Qx _ _ rfl ?_)
 refine Stop.to ?_;refine Qf rfl 3 _ rfl #[.int .i64 but] rfl ?_;intro P Pw Ph Pr Pb;have d:P≠g:=by omega
 have rg:=Hr.out.below Pb (by omega);have m:OnRow g w Pw:=OnRow.of_below (Pb.mono Ph);have rP:=Pr;have Hs:=Lv (Ain g cap l Pw rg Hl.out);clear Pb Pr Ph;go_wp2_with fail
 refine Hs.out.mono ?_;clear Hs rg;rintro e w1 ⟨rfl,r1,h⟩;have s:=h.row rP d;have n:=m.trans h;have b:(l.mergeSort λx y=>decide (x<=y)).length=l.length:=List.length_mergeSort l;have Hk:=Lv (Ac8 g cap (l.mergeSort λx y=>decide (x<=y)) w1 r1 (by rw[b];exact Hl.out) (by rw[b];exact Hc.out));rw[b,Aio]at Hk;clear rP m h b r1;go_wp2_with fail
 refine Hk.out.mono ?_;clear Hk;rintro e w2 ⟨rfl,r2,i⟩;have t:=i.row s d;have o:=n.trans i;have aa:(Xd l).length<=l.length:=Abq l;have Hd:=Lv (Ajb g cap P but (Xd l) (List.replicate (l.length-(Xd l).length) 0) w2 r2 t d (by have:=Hl.out;omega) (by have:=Hc.out;omega) z.out);clear s n i r2 t aa;go_wp2_with fail
 refine Hd.out.mono ?_;clear Hd;rintro e w3 ⟨rfl,p,cs,r3,k⟩;have q:=o.trans p
 have v:Hid (Below B w w3/\IntB w3 (some ⟨g,0,none⟩)/\Rd w3 (some ⟨g,0,none⟩) (Qj (Ka but l))):=⟨q.below hB (by omega),λa e=>by injection e with e;subst e;exact⟨_,r3⟩,λj u hj=>⟨_,rfl,by
  have:=r3.cellv (k j u hj)
  unfold Addr.add
  by_cases h0:j=0
  ·subst h0;exact this
  ·rw[if_neg h0];simpa using this⟩⟩
 clear o p q r3 k;go_wp2_with fail
 go_ret
 exact⟨_,_,rfl,v.out.2.2,by simp,v.out.1,v.out.2.1⟩
theorem Add:(Tryz.prog.info? 3).map (λi=>(i.zero,i.size))=some (some (.int .i64 0),1):=by kernel_rfl
def Zo (x:Nd):List Int:=if x.tag=1 then Ka x.n [0,1]else [0,1]
theorem AdJ (x:Nd)(w:World):
 Calls Tryz.prog 287 #[.agg x.cells.toArray] w λe w'=>IntsN (Zo x) w w' e:=by
 rw[show x.cells.toArray=#[.int .i64 x.tag,.int .i64 x.n]from rfl];go_enter Tryz.func287,Tryz.ntmps287
 go_wp2_with (refine Qx _ _ rfl ?_)
 refine Stop.to ?_;refine Qf rfl 52 _ rfl #[.int .i64 x.tag,.int .i64 x.n] rfl ?_;intro G Gw t o s;have z:=o.cellv (i:=0) (v:=.int .i64 x.tag) rfl;have c1:=o.cellv (i:=1) (v:=.int .i64 x.n) rfl;have b:=(Below.refl w.heap.size w).trans (s.mono t);clear s t o;by_cases g:x.tag=1
 ·have p:(x.tag==1)=true:=by simpa using g
  have h:Hid (Zo x=Ka x.n [0,1]):=by show _=_;unfold Zo;rw[if_pos g]
  clear g;go_wp2_with (refine QY _ _ _ rfl ?_)
  refine Stop.to ?_;refine Qw rfl 22 2 _ rfl 3 (Qj [0,1]).toArray (Kl Tryz.underlying22 Add (by decide) (by decide) (by kernel_rfl)) ?_;intro M l k d j;have y:=b.trans ((j.mono k).mono b.size);have u:=Lv (AeF M 2 w.heap.size x.n [0,1] l d (by simp) (by simp) (by unfold maxLen;omega) (by have:=b.size;omega));clear d j k z c1 b;go_wp2_with fail
  refine u.out.mono ?_;clear u;rintro e q ⟨A,c,rfl,h1,h2,h3,h4⟩;have m:Hid (Rd q A (Qj (Ka x.n [0,1]))/\(A=none->Ka x.n [0,1]=[])/\Below w.heap.size w q/\IntB q A):=⟨h1,h2,y.trans h3,h4⟩;clear h1 h2 h3 h4 y;go_wp2_with fail
  go_ret
  exact⟨A,c,by rw[h.out];rfl,by rw[h.out];exact m.out⟩
 ·have p:(x.tag==1)=false:=by simpa using g
  have h:Hid (Zo x=[0,1]):=by show _=_;unfold Zo;rw[if_neg g]
  clear g;go_wp2_with (refine QY _ _ _ rfl ?_)
  refine Stop.to ?_;refine Qw rfl 22 2 _ rfl 3 (Qj [0,1]).toArray (Kl Tryz.underlying22 Add (by decide) (by decide) (by kernel_rfl)) ?_;intro M l k d j;have m:Hid (Rd l (some ⟨M,0,none⟩) (Qj [0,1])/\Below w.heap.size w l/\IntB l (some ⟨M,0,none⟩)):=⟨Z6 d,b.trans ((j.mono k).mono b.size),λa e=>by injection e with e;subst e;exact⟨_,d⟩⟩;clear d j k z c1 b;go_wp2_with fail
  go_ret
  exact⟨_,_,by rw[h.out];rfl,by rw[h.out];exact m.out.1,by simp,m.out.2⟩
def Vo (lo but:Int)(k:Nat):List Int:=((List.range k).map λi:Nat=>lo+(i:Int)).filter (· != but)
def Jz (lo hi but:Int):List Int:=Vo lo but (hi+1-lo).toNat
theorem Aif (lo but:Int)(k:Nat):Vo lo but (k+1)=Vo lo but k++if lo+(k:Int)=but then []else [lo+(k:Int)]:=by
 unfold Vo;rw[List.range_succ,LW,N1];by_cases h:lo+(k:Int)=but<;>simp[h]
theorem Ag1 (lo but:Int)(k:Nat):(Vo lo but k).length<=k:=by
 unfold Vo;have:=Nu (· != but) ((List.range k).map λi:Nat=>lo+(i:Int));simpa using this
theorem E9 (lo hi but:Int)(w:World)(h0:0<=lo)(h1:lo<=hi)(h2:hi<=100):
 Calls Tryz.prog 285 #[.int .i64 lo,.int .i64 hi,.int .i64 but] w λe w'=>IntsN (Jz lo hi but) w w' e:=by
 obtain⟨n,hn⟩:∃n,n=(hi+1-lo).toNat:=⟨_,rfl⟩;have ah:lo+(n:Int)=hi+1:=by omega
 have Hn:=Lv hn;clear hn;go_enter Tryz.func285,Tryz.ntmps285
 go_wp2
 go_loopw [7,8] (λv i wr=>∃k:Nat,i=.int .i64 (lo+(k:Int))/\k<=n/\wr.ownsRow w.heap.size 3 1 v (Vo lo but k).length (Qj (Vo lo but k))/\Below w.heap.size w wr) (λ_ i _=>(hi+1-intOf i).toNat)
 case atStart=>exact⟨0,by simp,Nat.zero_le _,World.ownsRow_nil _ _ _ _,Below.refl _ _⟩
 case round=>
  rename_i v;obtain⟨k,rfl,hk,a,y⟩:=hrel;obtain⟨A,c,rfl,l,aa,h,p⟩:=U8 a;have j:=AeL a rfl;by_cases ag:k<n
  ·have af:lo+(k:Int)<=hi:=by omega
   have s:=Aif lo but k;have ac:=Ag1 lo but k;by_cases b:lo+(k:Int)=but
   ·have ad:((lo+(k:Int)) != but)=false:=by simp[b]
    rw[if_pos b,LT]at s;have Hs:=Lv s;have u:=Lv a;clear s b a l aa h p j;go_wp2_with fail
    go_roundw
    case rel=>exact⟨k+1,by go_num,by omega,by rw[Hs.out];exact u.out,y⟩
    case measure=>simp[intOf];omega
   ·have ad:((lo+(k:Int)) != but)=true:=by simp[b]
    rw[if_neg b]at s;have Hs:=Lv s;have t:=Lv ac;clear s b l aa h p ac j;go_wp2_with (refine QY _ _ _ rfl ?_)
    refine Stop.to ?_;refine Qw rfl 22 1 _ rfl 3 #[.int .i64 (lo+(k:Int))] (Kl Tryz.underlying22 Add (by decide) (by decide) (by kernel_rfl)) ?_;intro M Mw Mh Mr Mb;have g:=y.trans ((Mb.mono Mh).mono y.size);obtain⟨v',w',o,d,ab,_⟩:=Zq (P:=Tryz.prog) 22 3 (.int .i64 0) 1 8 Tryz.underlying22 Ju rfl (by decide) (by decide) (QU a (Mb.mono Mh)) g.size (Z6 (cs:=[.int .i64 (lo+(k:Int))]) Mr) (m:=1) (cap:=1) rfl (KF [lo+(k:Int)]) (by simp) (by have:=t.out;omega);have z:=QJ g (QU a (Mb.mono Mh)) ab g.size (Nat.le_refl _);have q:Hid (w'.ownsRow w.heap.size 3 1 v' (Vo lo but (k+1)).length (Qj (Vo lo but (k+1)))/\Below w.heap.size w w'):=⟨by rw[Hs.out,La,Xq];exact d,z⟩;have x:=Lv o;clear o d ab z g y Mr Mb Mh a Hs t;go_wp2_with (refine Zc rfl _ (QF rfl x.out) ?_)
    go_roundw
    case rel=>exact⟨k+1,by go_num,by omega,q.out⟩
    case measure=>simp[intOf];omega
  ·obtain rfl:k=n:=by omega
   have ae:hi<lo+(k:Int):=by omega
   have q:Hid (Rd wr A (Qj (Jz lo hi but))/\(A=none->Jz lo hi but=[])/\Vo lo but k=Jz lo hi but/\IntB wr A):=by
    have e:Vo lo but k=Jz lo hi but:=by unfold Jz;rw[Hn.out]
    rw[<-e]
    exact⟨l,λe=>by
     have:=h e;have:(Vo lo but k).length=0:=by omega
     exact L3 this,rfl,j⟩
   clear l h a p j;go_wp2_with fail
   go_ret
   exact⟨A,c,by rw[<-q.out.2.2.1];rfl,q.out.1,q.out.2.1,y,q.out.2.2.2⟩
attribute [local go_sem] Oper.semAt_some
structure KpG (Z:Nat->Obj->Prop)(A B:World):Prop where
 block:∀k o,¬Z k o->A.heap[k]? =some o->B.heap[k]? =some o
 size:A.heap.size<=B.heap.size
theorem KpG.trans{Z:Nat->Obj->Prop}{A B C:World}(h:KpG Z A B)(k:KpG Z B C):KpG Z A C:=⟨λi o hx ho=>k.block i o hx (h.block i o hx ho),Lj h.size k.size⟩
theorem KpG.refl (Z:Nat->Obj->Prop)(A:World):KpG Z A A:=⟨λ_ _ _ h=>h,Nat.le_refl _⟩
theorem KpG.of_below{Z:Nat->Obj->Prop}{A B:World}(h:Below A.heap.size A B):KpG Z A B:=⟨λk o _ ho=>by rw[h.block k (Lt.1 ho).1];exact ho,h.size⟩
theorem KpG.row{Z:Nat->Obj->Prop}{A B:World}(h:KpG Z A B){g:Nat}{t:TypeId}{cs:Array Value}(hr:Row A g t cs)(hx:¬Z g (.cells cs t (0,0))):Row B g t cs:=h.block g _ hx hr
theorem KpG.rd{Z:Nat->Obj->Prop}{A B:World}(h:KpG Z A B){ad:Option Addr}{xs:List Value}(hr:Rd A ad xs)(hx:xs≠[]->∀a,ad=some a->∀o,¬Z a.block o):Rd B ad xs:=λj u hj=>by
 obtain⟨a,e,i⟩:=hr j u hj;have d:xs≠[]:=λe=>by rw[e]at hj;simp at hj
 have c:=World.block_lt_of_cell? _ _ i;have b:(a.add j).block=a.block:=JU a j;rw[b]at c;have g:A.heap[a.block]? =some A.heap[a.block]:=N9 c;have k:=h.block _ _ (hx d a e _) g;exact⟨a,e,(World.cell?_of_block (by rw[b];exact k.trans g.symm)).trans i⟩
theorem Adw{W:World}{g:Nat}{t:TypeId}{v:Value}(h:Row W g t #[v]):W.setCell ⟨g,0,none⟩ v=W:=by
 have a:=h.set 0 v;have e:=Qu W g 0 v;rw[show(#[v]:Array Value).setIfInBounds 0 v=#[v] by simp]at a
 have d:(W.setCell ⟨g,0,none⟩ v).heap=W.heap:=by
  apply Array.ext_getElem?;intro k;by_cases b:k=g
  ·subst b;rw[show(W.setCell ⟨k,0,none⟩ v).heap[k]? =_ from a,show W.heap[k]? =_ from h]
  ·exact e.block k b
 have c:W.setCell ⟨g,0,none⟩ v={ W with heap:=(W.setCell ⟨g,0,none⟩ v).heap }:=rfl;rw[c,d]
structure LsX where
 op:Int
 A:Option Addr
 cap:Nat
 l:List Int
def LsX.f (x:LsX):Int×List Int:=(x.op,x.l)
def LsX.enc (x:LsX):Array Value:=#[.int .i64 x.op,.slice x.A x.l.length x.cap]
structure LsX.ok (x:LsX)(W:World):Prop where
 rd:Rd W x.A (Qj x.l)
 nil:x.A=none->x.l=[]
 ty:IntB W x.A
def LsP (full:List (Int×List Int))(pre:List LsX)(x:LsX)(W:World):Prop:=x.ok W/\∃rest,pre.map LsX.f++x.f::rest=full
def Ko (x y:Nd):List (Int×List Int):=
 (if 7<=x.tag/\x.tag<=11 then [(1,Jz 7 11 x.tag)]else if 12<=x.tag/\x.tag<=17 then [(2,Jz 12 17 x.tag)]else if x.tag=18\/x.tag=19 then [(3,Jz 18 19 x.tag)]
  else if x.tag=1 then [(4,Ka x.n [0,1, -1,wrap64 (x.n+1),wrap64 (x.n-1)])]else if x.tag=2 then [(4,[wrap64 (1-x.n)])]else [])
 ++(if x.tag=21\/x.tag=22\/x.tag=23\/x.tag=24\/x.tag=25 then [(5,[0])]else [])
 ++(if x.tag=23\/x.tag=24 then [(6,[0])]else if x.tag=25 then [(7,Zo y)]else [])
structure TellC (lb mo yb:Nat)(Z:Nat->Obj->Prop)(W:World):Prop where
 rm:Row W mo 4 #[.bool true]
 ry:Row W yb 340 #[.func (.yield lb) #[] #[]]
 zm:∀cs fr,¬Z mo (.cells cs 4 fr)
 zy:∀cs fr,¬Z yb (.cells cs 340 fr)
theorem TellC.kg{lb mo yb:Nat}{Z:Nat->Obj->Prop}{W W':World}(h:TellC lb mo yb Z W)(k:KpG Z W W'):TellC lb mo yb Z W':=⟨k.row h.rm (h.zm _ _),k.row h.ry (h.zy _ _),h.zm,h.zy⟩
theorem Jm (lb mo yb:Nat)(Z:Nat->Obj->Prop)(W:World)(x:LsX)(R:World->Prop)(hC:TellC lb mo yb Z W)
 (hY:YieldAt Fence.wide 0 Tryz.prog lb x.enc W λe W'=>e=.returned (.bool true)/\R W'/\KpG Z W W'):
 CallsIn Fence.wide 0 Tryz.prog 284 #[.int .i64 x.op,.slice x.A x.l.length x.cap,.pointer (some ⟨mo,0,none⟩),.pointer (some ⟨yb,0,none⟩)] W λe W'=>(∃v,e=.returned v)/\R W'/\KpG Z W W':=by
 have g:=Lv hC;obtain⟨z,d,a,c,p,n⟩:=hY;have j:(Instr.yield lb #[.int .i64 x.op,.slice x.A x.l.length x.cap]).run Tryz.prog W=.ok (.round lb z d a c) W:=p;have k:=Lv n;clear p n hC;have t:=g.out.rm.cellv (i:=0) (v:=.bool true) rfl;have w:=g.out.ry.cellv (i:=0) (v:=.func (.yield lb) #[] #[]) rfl;refine callsIn_of_wp Tryz.func284 rfl trivial ?_ rfl;simp only[Tryz.ntmps284,Ly,Le,Ll,Nat.reduceAdd,Nat.reduceSub,Ln,Lp,Lz,LD,Lu,Lk];gi_wp2_with fail
 refine⟨rfl,k.out.mono ?_⟩;clear j k t w;rintro e m ⟨rfl,o,h⟩;have b:=g.out.kg h;have u:=b.rm.cellv (i:=0) (v:=.bool true) rfl;have y:=b.rm.free 0;have s:=Lv (Adw b.rm);have q:Hid (R m/\KpG Z W m):=⟨o,h⟩;clear o h b;gi_wp2_with fail
 rw[s.out];go_end0
 exact⟨⟨_,rfl⟩,q.out⟩
structure ListsC (A:Option Addr)(cap n bl Rb:Nat)(x:Nd)(ys:List Nd)(Z:Nat->Obj->Prop)(w:World):Prop where
 rl:Row w bl 23 #[.slice A n cap]
 hr:Rd w A ((x::ys).flatMap Nd.cells)
 hn:n=(x::ys).length
 z1:∀k o,k<w.heap.size->k≠Rb->¬Z k o
 bn:bl≠Rb
 an:∀ad,A=some ad->ad.block≠Rb
 z2:∀k cs t fr,w.heap.size<=k->(t=340\/t=52\/t=4\/t=3)->¬Z k (.cells cs t fr)
 h25:x.tag=25->ys≠[]
end Go.Proofs.YtgnmkiafeplbpaaGreatDoor
