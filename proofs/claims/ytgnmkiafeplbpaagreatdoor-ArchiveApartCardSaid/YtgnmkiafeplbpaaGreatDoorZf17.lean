/- Lemmas for ArAll. -/
import Derived.Test.YtgnmkiafeplbpaaGreatDoorZf1
import Derived.Test.YtgnmkiafeplbpaaGreatDoorZf16
import Derived.Test.YtgnmkiafeplbpaaGreatDoorZf3
import Derived.Test.YtgnmkiafeplbpaaGreatDoorZf10
import Derived.Test.YtgnmkiafeplbpaaGreatDoorZf14
import Derived.Test.YtgnmkiafeplbpaaGreatDoorZf11
import Derived.Test.YtgnmkiafeplbpaaGreatDoorZf7
import Derived.Test.YtgnmkiafeplbpaaGreatDoorZf13
set_option linter.unusedVariables false
set_option linter.unusedSimpArgs false
set_option maxRecDepth 100000
set_option maxHeartbeats 16000000
namespace Go.Proofs.YtgnmkiafeplbpaaGreatDoor
open Go.RowKit Go.Deep
attribute [local go_sem] Oper.semAt_some
theorem E6{w:World}{base n size m c:Nat}{e:TypeId}{A:Option Addr}{xs:List Value}(h:w.ownsRow base e size (.slice A m c) n xs):Rd w A xs:=by
 have p:xs.length=n*size:=h.1;rcases h.2 with⟨b,l⟩|⟨g,k,a,b,y,o,z,hm,s,t⟩
 ·have x:xs=[]:=L3 (by rw[p,l,Nat.zero_mul]);subst x;exact Rd.nil _ _
 ·injection b with b;subst b;refine λj u d=>⟨_,rfl,?_⟩
  have q:Row w g e a:=o
  exact q.from_ 0 (cs:=xs) (λj v d=>by
   rw[LS, <-N2]
   have i:(a.toList.take (n*size))[j]? =some v:=by rw[t];exact d
   rw[Nc (by have:=(Lf.1 d).1;omega)]at i;exact i) j u d
theorem AlG{w:World}{base n size:Nat}{e:TypeId}{v:Value}{xs:List Value}(h:w.ownsRow base e size v n xs):∃A cap,v=.slice A n cap/\Rd w A xs/\n<=cap/\cap<=maxLen/\(A=none->cap=0)/\∀ad,A=some ad->base<=ad.block:=by
 obtain⟨A,cap,rfl⟩:=JQ h;refine⟨A,cap,rfl,E6 h,?_⟩;rcases h.2 with⟨a,k⟩|⟨g,c,b,a,d,_,i,j,_⟩
 ·injection a with e3 e4 e5;subst e3 e5;exact⟨by omega,by unfold maxLen;omega,λ_=>rfl,λad e=>by cases e⟩
 ·injection a with e3 e4 e5;subst e3 e5;exact⟨i,j,λe=>(by cases e),λad e=>by cases e;exact d⟩
structure ListsFn (A:Option Addr)(n cap:Nat)(w w':World)(e:Ending):Prop where
 ex:∃bl,e=.returned (.func (.func 283) #[] #[.pointer (some ⟨bl,0,none⟩)])/\Row w' bl 23 #[.slice A n cap]/\w.heap.size<=bl/\Below w.heap.size w w'
theorem Aev (A:Option Addr)(n cap:Nat)(w:World):
 Calls Tryz.prog 269 #[.slice A n cap] w λe w'=>ListsFn A n cap w w' e:=by
 go_enter Tryz.func269,Tryz.ntmps269
 go_wp2_with (refine Qx _ _ rfl ?_)
 refine Stop.to ?_;refine Qf rfl 23 _ rfl #[.slice A n cap] rfl ?_;intro G g b c a;have d:=(Below.refl w.heap.size w).trans (a.mono b);clear a;go_wp2
 go_ret
 exact⟨G,rfl,c,b,d⟩
def chC (c:Int×Int):List Value:=[.slice none 0 0,.int .i64 c.1,.int .i64 c.2]
def chZ (ls:List (Int×List Int)):List (Int×Int):=ls.flatMap λe=>e.2.map λn=>(e.1,n)
theorem Adc:(Tryz.prog.info? 91).map (λi=>(i.zero,i.size,i.bytes))=some (some (.agg #[.slice none 0 0,.int .i64 0,.int .i64 0]),3,40):=by kernel_rfl
theorem Aem:(Tryz.prog.info? 91).map (λi=>(i.zero,i.size))=some (some (.agg #[.slice none 0 0,.int .i64 0,.int .i64 0]),3):=by kernel_rfl
theorem AeE (but:Int)(l:List Int):(Ka but l).length<=l.length:=Lj (Nu _ _) (Abq l)
theorem Adv (lo hi but:Int):(Jz lo hi but).length<=(hi+1-lo).toNat:=Ag1 _ _ _
theorem EW (a b:List (Int×List Int)):chZ (a++b)=chZ a++chZ b:=by simp[chZ]
theorem Xk (o:Int)(l:List Int):(chZ [(o,l)]).length=l.length:=by simp[chZ]
theorem AiQ (x y:Nd):(chZ (Ko x y)).length<=100:=by
 have j:=Adv 7 11 x.tag;have k:=Adv 12 17 x.tag;have l:=Adv 18 19 x.tag;have h:=AeE x.n [0,1, -1,wrap64 (x.n+1),wrap64 (x.n-1)]
 have m:(Zo y).length<=2:=by
  unfold Zo;split
  ·exact AeE _ _
  ·simp
 simp only[Le,Ll]at h;unfold Ko;rw[EW,EW,La,La];have d:∀(c:Prop) [Decidable c] (a b:List (Int×List Int)) (n:Nat),(chZ a).length<=n->(chZ b).length<=n->(chZ (if c then a else b)).length<=n:=λc _ a b n e g=>by split<;>assumption
 have e:=d (7<=x.tag/\x.tag<=11) [(1,Jz 7 11 x.tag)] _ 10 (by rw[Xk];omega) (d (12<=x.tag/\x.tag<=17) [(2,Jz 12 17 x.tag)] _ 10 (by rw[Xk];omega) (d (x.tag=18\/x.tag=19) [(3,Jz 18 19 x.tag)] _ 10 (by rw[Xk];omega) (d (x.tag=1) [(4,Ka x.n [0,1, -1,wrap64 (x.n+1),wrap64 (x.n-1)])] _ 10 (by rw[Xk];omega) (d (x.tag=2) [(4,[wrap64 (1-x.n)])] [] 10 (by rw[Xk];simp) (by simp[chZ])))));have g:=d (x.tag=21\/x.tag=22\/x.tag=23\/x.tag=24\/x.tag=25) [(5,[0])] [] 10 (by rw[Xk];simp) (by simp[chZ]);have i:=d (x.tag=23\/x.tag=24) [(6,[0])] _ 10 (by rw[Xk];simp) (d (x.tag=25) [(7,Zo y)] [] 10 (by rw[Xk];omega) (by simp[chZ]));omega
theorem AkR (c:Int×Int):∀u∈chC c,u.oneCell'=true:=by
 intro u a;simp only[chC,L6,LJ,or_false]at a;rcases a with rfl|rfl|rfl<;>rfl
structure ChsR (cs:List (Int×Int))(w w':World)(e:Ending):Prop where
 ex:∃v,e=.returned v/\w'.ownsRow w.heap.size 91 3 v cs.length (cs.flatMap chC)/\Below w.heap.size w w'
def ChZ (Rb lim:Nat)(k:Nat)(o:Obj):Prop:=k=Rb\/(lim<=k/\∃cs fr,o=.cells cs 91 fr)
theorem Amm{Rb lim L n:Nat}{W W':World}{v:Value}{xs:List Value}(h:W.ownsRow lim 91 3 v n xs)(hg:W.grownBy W' v.ownBlock):KpG (λk o=>ChZ Rb lim k o\/k=L) W W':=⟨λk o hx ho=>by
 refine(hg.block k (Lt.1 ho).1 (λe=>hx (.inl (.inr ?_)))).trans ho
 rcases h.2 with⟨rfl,_⟩|⟨g,c,cur,rfl,hb,hr,_⟩
 ·cases e
 ·injection e with e
  have e':k=g:=e
  subst e'
  rw[hr]at ho;injection ho with ho
  exact⟨hb,_,_,ho.symm⟩,hg.size⟩
theorem AdW (A:Option Addr)(cap:Nat)(l:List Nd)(q:Nat)(t:Tr)(w:World)(hat:At l q t)(hr:Rd w A (l.flatMap Nd.cells))(hl:l.length<=1000)(hlc:l.length<=cap)(hcm:cap<=maxLen)(ht1:1<=t.root.tag)(ht2:t.root.tag<=26)(h25:t.root.tag=25->t.kids≠[]):
 Calls Tryz.prog 259 #[.slice A l.length cap,.int .i64 (q:Int)] w λe w'=>ChsR (chZ (Ko t.root (t.flat.tail.headD ⟨0,0⟩))) w w' e:=by
 have Hp:=Lv (λW h=>AjW A cap l q t W hat h hl hlc hcm);have Hr:=Lv hr;have b0:t.flat.length≠0:=by cases t;simp[Tr.flat]
 have a8:t.flat=t.root::t.flat.tail:=by rw[t.flat_eq];rfl
 have a1:=Lv a8;have bm:=Lv ht1;have bn:=Lv ht2
 have a0:Hid (t.root.tag=25->t.flat.tail≠[]):=λh=>by
  have:=h25 h;rw[t.flat_eq];simp only[List.tail_cons];cases hk:t.kids with
  |nil=>exact absurd hk this
  |cons k ks=>have:=UX (k::ks);intro e;rw[e]at this;simp at this
 have ca:(0:Int)<(t.flat.length:Int):=by omega
 clear hat hr hl hlc hcm ht1 ht2 h25 b0 a8;refine(callsIn_wide (n:=0)).1 ?_;refine callsIn_of_wp_marks Tryz.func259 rfl trivial ?_;simp only[Tryz.ntmps259,Ly,Le,Ll,Nat.reduceAdd,Nat.reduceSub,Ln,Lp,Lz,LD,Lu,Lk];gi_wp2_with fail
 obtain⟨s,al⟩:∃B,B=w.heap.size:=⟨_,rfl⟩;obtain⟨w1,an⟩:∃w1,w1=w.alloc (.cells #[.slice none 0 0] 87):=⟨_,rfl⟩;have rR:Row w1 s 87 #[.slice none 0 0]:=by rw[an,al];exact Row.new _ _ _
 have b1:Below w.heap.size w w1:=by rw[an];exact(Below.refl _ _).alloc (Nat.le_refl _) _
 rw[<-an, <-al];have bs:w.heap.size<=s:=LI al.symm;clear an al;refine⟨trivial,rfl,(callsIn_wide.2 (Hp.out w1 (Hr.out.go b1))).mono ?_⟩;rintro e w2 ⟨v2,rfl,z,b2⟩;obtain⟨A2,c2,rfl⟩:=JQ z;have ap:Rd w2 A2 (t.flat.flatMap Nd.cells):=E6 z;have a6:∀ad,A2=some ad->s<ad.block:=λad e=>Lg rR.lt (Af6 z (by rw[e];rfl))
 replace rR:=rR.below b2 rR.lt;have bb:=b1.trans (b2.mono b1.size);have cd:=rR.lt;clear b1 b2 z Hp;gi_wp2_with fail
 refine⟨trivial,rfl,(callsIn_wide.2 (Aev A2 t.flat.length c2 w2)).mono ?_⟩;rintro e w3 ⟨bl,rfl,rl,gl,b3⟩;replace rR:=rR.below b3 rR.lt;have bt:bl≠s:=by omega
 replace bb:=bb.trans (b3.mono bb.size)
 have hC:ListsC A2 c2 t.flat.length bl s t.root t.flat.tail (ChZ s w3.heap.size) w3:=⟨rl,by rw[<-a1.out];exact ap.go b3,by rw[<-a1.out],λk o h1 g h=>by
  rcases h with h|⟨h,_⟩
  ·exact g h
  ·omega,bt,λad e=>by have:=a6 ad e;omega,λk cs tt fr h1 g h=>by
  rcases h with h|⟨_,bp,bq,h⟩
  ·have:=rR.lt;omega
  ·injection h with _ h;subst h;rcases g with g|g|g|g<;>exact absurd g (by decide),a0.out⟩
 have aw:=Lv (AfX A2 c2 t.flat.length bl s t.root t.flat.tail (ChZ s w3.heap.size) w3 hC bm.out bn.out);have au:=Lv bb;have az:=rR;clear hC rl gl b3 bb ap a6 rR Hr a0;gi_wp2_with fail
 obtain⟨ag,ae⟩:∃ag,ag=Ko t.root (t.flat.tail.headD ⟨0,0⟩):=⟨_,rfl⟩;have a7:(chZ ag).length<=100:=by rw[ae];exact AiQ _ _
 rw[<-ae]at aw;have av:=Lv ae;have bj:=Lv a7;obtain⟨b,ac⟩:∃b,b=w3.heap.size:=⟨_,rfl⟩;have ao:=Lv ac;have br:s<b:=by rw[ac];exact az.lt
 have ak:w.heap.size<=b:=by rw[ac];exact au.out.size
 rw[<-ac]at aw;have bh:Hid (∃v,Row w3 s 87 #[v]/\w3.ownsRow b 91 3 v (chZ (([]:List LsX).map LsX.f)).length ((chZ (([]:List LsX).map LsX.f)).flatMap chC)/\Below w.heap.size w w3/\b<=w3.heap.size):=⟨_,az,World.ownsRow_nil _ _ _ _,au.out,LI ac⟩;clear ae a7 az au ac
 refine YU (gf:=283) (lb:=#[.pointer (some ⟨bl,0,none⟩)]) rfl (enters_of Tryz.func283 (by kernel_rfl) rfl) aw.out (λr h=>h.elim)
  (λh k=>h.trans k) (λV o o' ho hc=>⟨λi p hx hp=>by rw[World.putObj_heap_other (λe=>hx (.inr e))];exact hp,by simp⟩) (World.grownBy.refl _ _) (λ_=>rfl)
  (λd V=>∃v,Row V s 87 #[v]/\V.ownsRow b 91 3 v (chZ (d.map LsX.f)).length ((chZ (d.map LsX.f)).flatMap chC)/\Below w.heap.size w V/\b<=V.heap.size) (λ_ _ _=>False) (.inr λ_ _ _ h=>h) ?hI ?hIx bh.out
  (λd x a' V=>a'={ tmps:=#[.slice A l.length cap,.int .i64 (q:Int),undef,undef,.slice none 0 0,.pointer (some ⟨s,0,none⟩),.slice A2 t.flat.length c2,.int .i64 x.op,.slice x.A x.l.length x.cap,undef,undef,.slice A l.length cap,.int .i64 (q:Int),.slice A2 t.flat.length c2,.slice A2 t.flat.length c2,.int .i64 (t.flat.length:Int),.bool true,.slice A2 t.flat.length c2,.func (.func 283) #[] #[.pointer (some ⟨bl,0,none⟩)],.int .i64 x.op,.slice x.A x.l.length x.cap,undef,undef,undef,undef,undef,undef,undef,undef,undef,undef,undef,undef,undef,undef],defers:=[] }/\LsP ag d x V) ?hAx ?assign ?body ?done ?stop
 case hI=>
  rintro d X Y row ⟨v,h1,g,h3,h4⟩ hg hr
  have aq:∀r,row=some r->b<=r/\v.ownBlock≠some r:=λr e=>by
   rcases hr r e with h|⟨h,o,ho,hc⟩
   ·exact h.elim
   ·exact⟨by have:=ao.out;omega,JC g ho hc⟩
  refine⟨v,h1.abide hg hr,g.kept hg ?_,h3.grown hg h3.size (λk e=>by have:=(aq k e).1;omega),Lj h4 hg.size⟩;cases row with
  |none=>cases v.ownBlock<;>simp
  |some r=>exact .inr (aq r rfl).2
 case hIx=>exact λ_ _ _ _ _ h _ _=>h
 case hAx=>
  rintro d x a' _ V V' row ⟨h1,g,h3⟩ hg hr;refine⟨h1,⟨g.rd.grown hg (λi e=>?_),g.nil,λa e=>?_⟩,h3⟩
  ·rcases hr i e with h|⟨h,o⟩
   ·exact h.elim
   ·exact o
  ·obtain⟨cs,ab⟩:=g.ty a e;exact⟨cs,ab.abide hg hr⟩
 case assign=>
  rintro l3 d x V K hI hP hK;have HK:=Lv hK;have HI:=Lv hI;have HP:=Lv hP;clear hK hI hP;unfold LsX.enc;gi_wp2_with fail
  exact HK.out _ _ (KeepsFrom.refl _ _) (KpG.refl _ _) HI.out ⟨rfl,HP.out⟩
 case stop=>exact λD c d W _ _ h _=>h.elim
 case body=>
  rintro l3 d ⟨op,XA,xc,xl⟩ a' V bw ai ⟨v,h1,g,h3,h4⟩ ⟨rfl,ay,cc,af⟩ a9
  have cb:(chZ (d.map LsX.f)).length+xl.length<=100:=by
   have:=bj.out;rw[<-af]at this;simp only[chZ,LM,LF,La,LsX.f,L7]at this|-;omega
  have hZ:∀a,XA=some a->∃cs,Row V a.block 3 cs/\¬(ChZ s b a.block (.cells cs 3 (0,0))\/a.block=w3.heap.size+1):=λa e=>by
   obtain⟨cs,ab⟩:=ay.ty a e;refine⟨cs,ab,λh=>?_⟩;have aa:V.heap[a.block]? =some (.cells cs 3 (0,0)):=ab;rcases h with(h|⟨_,bp,bq,h⟩)|h
   ·rw[h,show V.heap[s]? =some (.cells #[v] 87 (0,0))from h1]at aa;injection aa with aa;injection aa with _ aa;exact absurd aa (by decide)
   ·injection h with _ h;exact absurd h (by decide)
   ·obtain⟨r,hr⟩:=ai;rw[h, <-bw,hr]at aa;cases aa
  have HZ:=Lv hZ;have a4:=Lv ay;have bk:=Lv af;clear hZ ay af a9 ai;obtain⟨i0,bv,b5,b6,b7⟩:=info_parts Adc;have cg:(xl.length:Int)<=100:=by omega
  gi_wp2_with fail
  gi_loopw [23] (λi wr=>∃(k:Nat) (v:Value),i=.int .i64 (k:Int)/\k<=xl.length/\Row wr s 87 #[v]/\wr.ownsRow b 91 3 v (chZ (d.map LsX.f)++(xl.take k).map λn=>(op,n)).length ((chZ (d.map LsX.f)++(xl.take k).map λn=>(op,n)).flatMap chC)/\Below w.heap.size w wr/\b<=wr.heap.size/\KeepsFrom w3.heap.size V wr/\KpG (λk o=>ChZ s b k o\/k=w3.heap.size+1) V wr) (λi _=>xl.length-(intOf i).toNat)
  case atStart=>exact⟨0,v,rfl,Nat.zero_le _,h1,by simpa using g,h3,h4,KeepsFrom.refl _ _,KpG.refl _ _⟩
  case round=>
   clear h1 g h3 h4;obtain⟨k,v,rfl,hk,h1,g,h3,h4,am,ah⟩:=hrel;by_cases bx:k<xl.length
   ·obtain⟨y,hy⟩:∃y,xl[k]? =some y:=⟨_,Ld bx⟩;obtain⟨xa,bc,_⟩:=Q4 a4.out.rd hy
    have ba:Rd wr XA (Qj xl):=λj u hj=>by
     obtain⟨a,e,hc⟩:=a4.out.rd j u hj;obtain⟨cs,ab,b4⟩:=HZ.out a e;exact⟨a,e,(World.cell?_of_block (by rw[JU];exact(ah.row ab b4).trans ab.symm)).trans hc⟩
    obtain⟨xb,be,ax⟩:=Q4 ba hy
    obtain rfl:xa=xb:=by
     have bd:XA=some xa:=bc;have ar:XA=some xb:=be;rw[bd]at ar;injection ar
    clear be;subst bc;have Hy:=Lv hy;have b8:(k:Int)<(xl.length:Int):=by omega
    have hc:=h1.cellv (i:=0) (v:=v) rfl;have hf:=h1.free 0;have bf:(xl.take (k+1)).map (λn=>(op,n))=(xl.take k).map (λn=>(op,n))++[(op,y)]:=by rw[L5,hy];simp
    have bz:(chZ (d.map LsX.f)++(xl.take k).map λn=>(op,n)).length<=100:=by
     rw[La,L7,LH];omega
    have a5:=Lv bf;generalize ab:chZ (d.map LsX.f)++(xl.take k).map (λn=>(op,n))=cs at g bz;have bi:=Lv ab;clear ab;have HA:=Lv (g.alloc (.cells #[.slice none 0 0,.int .i64 op,.int .i64 y] 91));have H1:=Lv h1;have H2:=Lv g;have H3:=Lv h3;have H4:=Lv h4;have a2:=Lv am;have a3:=Lv ah;have bu:(wr.alloc (.cells #[.slice none 0 0,.int .i64 op,.int .i64 y] 91)).cell? ⟨s,0,none⟩=some v:=(h1.alloc _).cellv (i:=0) rfl;have Hc:=Lv ax;clear ba hy bf h1 g h3 h4 am ah;gi_wp2_with (gi_at_builtin;refine wpListIn_append_own_at _ rfl (.tmp 27) (.tmp 31) 87 rfl b 91 i0 (.agg #[.slice none 0 0,.int .i64 0,.int .i64 0]) 3 40 Tryz.underlying87 bv b5 b6 b7 rfl (by decide) v _ _ rfl HA.out ⟨wr.heap.size,0,none⟩ 1 1 (chC (op,y)) rfl rfl (XP _ _ _) (AkR _) (by unfold maxLen;omega) (by omega) (by have:=H4.out;simp;omega) ?_);intro v' W9 z hg _ hat;have r9:=(H1.out.alloc (.cells #[.slice none 0 0,.int .i64 op,.int .i64 y] 91)).grown hg (QK HA.out (H1.out.alloc _) (by decide));have b9:=QJ (H3.out.alloc H3.out.size (.cells #[.slice none 0 0,.int .i64 op,.int .i64 y] 91)) HA.out hg (by have:=H3.out.size;simp;omega) ak;have k9:KeepsFrom w3.heap.size V W9:=a2.out.trans ((KeepsFrom.alloc _ wr (.cells #[.slice none 0 0,.int .i64 op,.int .i64 y] 91)).trans (KeepsFrom.of_own HA.out hg));have p9:KpG (λk o=>ChZ s b k o\/k=w3.heap.size+1) V W9:=a3.out.trans ((KpG.of_below ((Below.refl _ wr).alloc (Nat.le_refl _) _)).trans (Amm HA.out hg));have s9:b<=W9.heap.size:=by have e1:=hg.size;have e2:=H4.out;rw[World.size_alloc]at e1;omega
    obtain⟨A',m',c',rfl⟩:∃A m c,v'=.slice A m c:=Ji z;have ce:=r9.cellv (i:=0) (v:=v) rfl;have cf:=r9.free 0;have nG:=QK z r9 (by decide);have o4:=Qu W9 s 0 (.slice A' m' c');have aj:=Za z o4 nG;have r4:=r9.set 0 (.slice A' m' c')
    have HF:Hid (Row (W9.setCell ⟨s,0,none⟩ (.slice A' m' c')) s 87 #[.slice A' m' c']/\(W9.setCell ⟨s,0,none⟩ (.slice A' m' c')).ownsRow b 91 3 (.slice A' m' c') (chZ (d.map LsX.f)++(xl.take (k+1)).map λn=>(op,n)).length ((chZ (d.map LsX.f)++(xl.take (k+1)).map λn=>(op,n)).flatMap chC)/\Below w.heap.size w (W9.setCell ⟨s,0,none⟩ (.slice A' m' c'))/\b<=(W9.setCell ⟨s,0,none⟩ (.slice A' m' c')).heap.size/\KeepsFrom w3.heap.size V (W9.setCell ⟨s,0,none⟩ (.slice A' m' c'))/\KpG (λk o=>ChZ s b k o\/k=w3.heap.size+1) V (W9.setCell ⟨s,0,none⟩ (.slice A' m' c'))):=by
     refine⟨r4,?_,Ql b9 o4 bs,Lj s9 (LI o4.size.symm),k9.trans (KeepsFrom.of_only r9 o4),p9.trans ⟨λi o hx ho=>by rw[o4.block i (λe=>hx (.inl (.inl e)))];exact ho,LI o4.size.symm⟩⟩;rw[a5.out, <-L4,bi.out,La,LM,List.flatMap_singleton];exact aj
    clear z hg hat r9 b9 k9 p9 nG o4 aj r4 hc hf bu HA H1 H2 H3 H4 a2 a3 a5;gi_wp2_with fail
    go_roundw
    case rel=>exact⟨k+1,_,by go_num,by omega,HF.out⟩
    case measure=>simp[intOf];omega
   ·obtain rfl:k=xl.length:=by omega
    rw[LO]at g
    have HF:Hid (KeepsFrom w3.heap.size V wr/\KpG (λk o=>ChZ s b k o\/k=w3.heap.size+1) V wr/\∃v,Row wr s 87 #[v]/\wr.ownsRow b 91 3 v (chZ ((d++[(⟨op,XA,xc,xl⟩:LsX)]).map LsX.f)).length ((chZ ((d++[(⟨op,XA,xc,xl⟩:LsX)]).map LsX.f)).flatMap chC)/\Below w.heap.size w wr/\b<=wr.heap.size):=⟨am,ah,v,h1,by
     have e:chZ ((d++[(⟨op,XA,xc,xl⟩:LsX)]).map LsX.f)=chZ (d.map LsX.f)++xl.map λn=>(op,n):=by rw[LW,EW];simp[chZ,LsX.f]
     rw[e];exact g,h3,h4⟩
    clear h1 g h3 h4 am ah;gi_wp2_with fail
    exact HF.out
 case done=>
  rintro D ys W hD bg ⟨v,h1,g,h3,h4⟩ hK;obtain⟨A9,c9,rfl⟩:=JQ g;have hc:=h1.cellv (i:=0) rfl;have HK:=Lv hK;have H2:=Lv g;have H3:=Lv h3;have bo:=Lv bg;clear hK h1 g h3 bg;gi_wp2;refine⟨by simp,.inl ⟨_,_,rfl,run_takeDeferred HK.out,?_⟩⟩;refine⟨_,results_tmp rfl _ _ _,_,rfl,?_,H3.out.grown (grownBy_putObj' _ _ _) H3.out.size (λk e=>by cases e;have:=ao.out;omega)⟩;rw[<-av.out, <-bo.out];exact U6 ((H2.out.kept (grownBy_putObj' _ _ _) (.inr (JC H2.out HK.out rfl)))) ak
end Go.Proofs.YtgnmkiafeplbpaaGreatDoor
namespace Go.Proofs.YtgnmkiafeplbpaaGreatDoor
open Go.RowKit
def Up (x y:Nd)(op:Int):List Int:=(Ady x).filter (isC x y op)
def El (op:Int)(l:List Int):List (Int×Int):=l.map λn=>(op,n)
theorem AbF (x y:Nd):Z7 x y=El 1 (Up x y 1)++(El 2 (Up x y 2)++(El 3 (Up x y 3)++(El 4 (Up x y 4)++(El 5 (Up x y 5)++(El 6 (Up x y 6)++El 7 (Up x y 7)))))):=by
 unfold Z7;rw[show((List.range 7).map λi:Nat=>(i:Int)+1)=[1,2,3,4,5,6,7]from by decide];simp only[LF,List.flatMap_nil,LT];rfl
theorem Uz{x y:Nd}{op:Int}{L:List Int}(h2:x.tag=2->x.n=0\/x.n=1)(hr:J3 L)(hm:∀n,n∈L<->isC x y op n=true):Up x y op=L:=
 Ef (JX _ (Xe _)) hr λn=>by
  unfold Up
  rw[Nl,hm]
  exact⟨λh=>h.2,λh=>⟨Acq h h2,h⟩⟩
theorem Eg (lo hi but:Int):J3 (Jz lo hi but):=by
 refine JX _ (Abb ?_);rw[N4];exact List.pairwise_lt_range.imp λ{i j} h=>by show lo+(i:Int)<lo+(j:Int);omega
theorem Abf{lo hi but n:Int}:n∈Jz lo hi but<->lo<=n/\n<=hi/\n≠but:=by
 unfold Jz Vo;rw[Nl,LL];constructor
 ·rintro⟨⟨i,hi,rfl⟩,h⟩;rw[Ny]at hi;have a:lo+(i:Int)≠but:=by simpa using h
  exact⟨by omega,by omega,a⟩
 ·rintro⟨c,d,b⟩;refine⟨⟨(n-lo).toNat,Ny.2 (by omega),by omega⟩,by simpa using b⟩
theorem AaY (but:Int)(l:List Int):J3 (Ka but l):=JX _ (Xe _)
theorem AcE{but n:Int}{l:List Int}:n∈Ka but l<->n∈l/\n≠but:=by
 unfold Ka;rw[Nl,Um];simp
theorem AmE{x y:Nd}(h2:x.tag=2->x.n=0\/x.n=1):Up x y 1=if 7<=x.tag/\x.tag<=11 then Jz 7 11 x.tag else []:=by
 refine Uz h2 (by split;exact Eg _ _ _;trivial) λn=>?_
 show _<->decide _=true;rw[decide_eq_true_eq];split
 ·rw[Abf];omega
 ·simp;omega
theorem AmF{x y:Nd}(h2:x.tag=2->x.n=0\/x.n=1):Up x y 2=if 12<=x.tag/\x.tag<=17 then Jz 12 17 x.tag else []:=by
 refine Uz h2 (by split;exact Eg _ _ _;trivial) λn=>?_
 show _<->decide _=true;rw[decide_eq_true_eq];split
 ·rw[Abf];omega
 ·simp;omega
theorem AmG{x y:Nd}(h2:x.tag=2->x.n=0\/x.n=1):Up x y 3=if x.tag=18\/x.tag=19 then Jz 18 19 x.tag else []:=by
 refine Uz h2 (by split;exact Eg _ _ _;trivial) λn=>?_
 show _<->decide _=true;rw[decide_eq_true_eq];split
 ·rw[Abf];omega
 ·simp;omega
theorem AmH{x y:Nd}(h2:x.tag=2->x.n=0\/x.n=1):Up x y 4=if x.tag=1 then Ka x.n [0,1, -1,wrap64 (x.n+1),wrap64 (x.n-1)]else if x.tag=2 then [wrap64 (1-x.n)]else []:=by
 refine Uz h2 (by split;exact AaY _ _;split<;>trivial) λn=>?_
 show _<->decide _=true;rw[decide_eq_true_eq];split
 ·rw[AcE];simp only[L6,LJ,or_false];omega
 ·split
  ·simp only[L6,LJ,or_false];omega
  ·simp only[LJ,false_iff];omega
theorem AmI{x y:Nd}(h2:x.tag=2->x.n=0\/x.n=1):Up x y 5=if x.tag=21\/x.tag=22\/x.tag=23\/x.tag=24\/x.tag=25 then [0]else []:=by
 refine Uz h2 (by split<;>trivial) λn=>?_
 show _<->decide _=true;rw[decide_eq_true_eq];split
 ·simp only[L6,LJ,or_false];omega
 ·simp only[LJ,false_iff];omega
theorem AmJ{x y:Nd}(h2:x.tag=2->x.n=0\/x.n=1):Up x y 6=if x.tag=23\/x.tag=24 then [0]else []:=by
 refine Uz h2 (by split<;>trivial) λn=>?_
 show _<->decide _=true;rw[decide_eq_true_eq];split
 ·simp only[L6,LJ,or_false];omega
 ·simp only[LJ,false_iff];omega
theorem AmK{x y:Nd}(h2:x.tag=2->x.n=0\/x.n=1):Up x y 7=if x.tag=25 then Zo y else []:=by
 have a:J3 (Zo y):=by
  unfold Zo;split
  ·exact AaY _ _
  ·exact⟨by omega,trivial⟩
 refine Uz h2 (by split;exact a;trivial) λn=>?_
 show _<->decide _=true;rw[decide_eq_true_eq];split
 ·unfold Zo;split
  ·rw[AcE];simp only[L6,LJ,or_false];omega
  ·simp only[L6,LJ,or_false];omega
 ·simp only[LJ,false_iff];omega
theorem AiR (o:Int)(l:List Int):chZ [(o,l)]=El o l:=by simp[chZ,El]
theorem AkT (c:Prop)[Decidable c](a b:List (Int×List Int)):chZ (if c then a else b)=if c then chZ a else chZ b:=by split<;>rfl
theorem Akk (c:Prop)[Decidable c](o:Int)(a b:List Int):El o (if c then a else b)=if c then El o a else El o b:=by split<;>rfl
theorem Akl (o:Int):El o []=[]:=rfl
theorem AaT{x y:Nd}(h2:x.tag=2->x.n=0\/x.n=1):chZ (Ko x y)=Z7 x y:=by
 rw[AbF,AmE h2,AmF h2,AmG h2,AmH h2,AmI h2,AmJ h2,AmK h2];unfold Ko;have i:chZ []=[]:=rfl;simp only[EW,AkT,AiR,Akk,Akl,i];by_cases h:x.tag=25
 ·have c:¬(7<=x.tag/\x.tag<=11):=by omega
  have b:¬(12<=x.tag/\x.tag<=17):=by omega
  have a:¬(x.tag=18\/x.tag=19):=by omega
  have d:¬(x.tag=1):=by omega
  have e:¬(x.tag=2):=by omega
  have g:¬(x.tag=23\/x.tag=24):=by omega
  rw[if_neg c,if_neg b,if_neg a,if_neg d,if_neg e,if_neg g,if_pos h,if_neg c,if_neg b,if_neg a,if_neg g];simp
 ·rw[if_neg h];by_cases c:7<=x.tag/\x.tag<=11
  ·have b:¬(12<=x.tag/\x.tag<=17):=by omega
   have a:¬(x.tag=18\/x.tag=19):=by omega
   have d:¬(x.tag=1):=by omega
   have e:¬(x.tag=2):=by omega
   simp only[if_pos c,if_neg b,if_neg a,if_neg d,if_neg e];simp
  by_cases b:12<=x.tag/\x.tag<=17
  ·have a:¬(x.tag=18\/x.tag=19):=by omega
   have d:¬(x.tag=1):=by omega
   have e:¬(x.tag=2):=by omega
   simp only[if_neg c,if_pos b,if_neg a,if_neg d,if_neg e];simp
  by_cases a:x.tag=18\/x.tag=19
  ·have d:¬(x.tag=1):=by omega
   have e:¬(x.tag=2):=by omega
   simp only[if_neg c,if_neg b,if_pos a,if_neg d,if_neg e];simp
  simp only[if_neg c,if_neg b,if_neg a];simp
theorem AmP{x y z:Nd}(h:x.tag≠25)(op n:Int):isC x y op n=isC x z op n:=by
 unfold isC;have e:decide (x.tag=25/\(n=0\/n=1)/\¬(y.tag=1/\y.n=n))=decide (x.tag=25/\(n=0\/n=1)/\¬(z.tag=1/\z.n=n)):=by simp[h]
 rw[e]
theorem Afp{x y z:Nd}(h:x.tag≠25):Z7 x y=Z7 x z:=by
 unfold Z7;have e:∀a,isC x y a=isC x z a:=λa=>funext λn=>AmP h a n
 simp only[e]
theorem Akn{x:Nd}(h:¬Qy x<0):1<=x.tag/\x.tag<=26:=by
 by_cases k:1<=x.tag/\x.tag<=26
 ·exact k
 ·exact absurd (VM (t:=x.tag) (n:=x.n) k) (λe=>h (by have:Qy x= -1:=e;omega))
theorem AlQ{x:Nd}(h:¬Qy x<0)(h2:x.tag=2):x.n=0\/x.n=1:=by
 obtain⟨t,n⟩:=x;simp only at h2;subst h2;unfold Qy at h;simp only[QX]at h;by_cases k:n<0\/1<n
 ·exfalso;apply h;simp;omega
 ·show n=0\/n=1;omega
theorem AbY{x:Nd}(h:¬Qy x<0)(h2:x.tag=25):Qy x=1:=by
 obtain⟨t,n⟩:=x;simp only at h2;subst h2;unfold Qy at h|-;simp only[QX]at h|-;by_cases k:n<0\/0<n
 ·exfalso;apply h;simp;omega
 ·simp;omega
theorem At.second{l:List Nd}{q:Nat}{t:Tr}(h:At l q t)(hk:t.kids≠[]):VZ l (q+1)=t.flat.tail.headD ⟨0,0⟩:=by
 obtain⟨c,e⟩:=h.here;have a:=t.flat_eq
 have b:QM t.kids≠[]:=by
  cases hk2:t.kids with
  |nil=>exact absurd hk2 hk
  |cons k ks=>have:=UX (k::ks);intro e;rw[e]at this;simp at this
 have d:l[q+1]? =(l.drop q)[1]? :=by rw[Ni]
 unfold VZ;rw[d,e,a];cases hf:QM t.kids with
 |nil=>exact absurd hf b
 |cons y ys=>simp
theorem Ah0{l:List Nd}{q:Nat}{t:Tr}(h:At l q t):VZ l q=t.root:=by unfold VZ;rw[h.root];rfl
theorem Aas{l:List Nd}{q:Nat}{t:Tr}(h:At l q t)(ha:¬Qy t.root<0):chZ (Ko t.root (t.flat.tail.headD ⟨0,0⟩))=Je l q:=by
 rw[AaT (AlQ ha)];unfold Je;rw[Ah0 h];by_cases a:t.root.tag=25
 ·have c:t.kids≠[]:=λe=>by
    have b:=h.fits.arity;rw[AbY ha a,e]at b;simp at b
  rw[h.second c]
 ·exact Afp a
theorem AjC{l:List Nd}{q:Nat}{t:Tr}(h:At l q t)(ha:¬Qy t.root<0)(h25:t.root.tag=25):t.kids≠[]:=λe=>by
 have a:=h.fits.arity;rw[AbY ha h25,e]at a;simp at a
end Go.Proofs.YtgnmkiafeplbpaaGreatDoor
namespace Go.Proofs.YtgnmkiafeplbpaaGreatDoor
open Go.RowKit Go.Deep
open Classical in
noncomputable def inP (p:PgV)(d:Dl):Bool:=decide (∃t,Fine p t/\d∈KC p.body t)
open Classical in
theorem Ajw{p:PgV}{t:Tr}(h:Fine p t)(d:Dl):inP p d=true<->d∈KC p.body t:=by
 unfold inP;rw[decide_eq_true_eq];exact⟨λ⟨u,hu,a⟩=>by rwa[h.good.whole.uniq hu.good.whole],λa=>⟨t,h,a⟩⟩
end Go.Proofs.YtgnmkiafeplbpaaGreatDoor
namespace Go.Proofs.YtgnmkiafeplbpaaGreatDoor
open Go.RowKit
open Classical in
noncomputable def YX (l:List Mt):Bool:=decide (K7 l)
open Classical in
theorem riseB_iff{l:List Mt}:YX l=true<->K7 l:=by unfold YX;rw[decide_eq_true_eq]
theorem Yt:∀{l:List Mt} {k:Nat} {x y:Mt},l[k]? =some x->l[k+1]? =some y->K7 (l.take (k+1))->Zw x.d y.d<0->K7 (l.take (k+2))
 |[],_,_,_,h,_,_,_=>by simp at h
 |a::l,0,x,y,h1,h2,_,h4=>by
  cases l with
  |nil=>simp at h2
  |cons b l=>
   simp at h1 h2
   subst h1 h2
   exact⟨h4,trivial⟩
 |a::l,k+1,x,y,h1,h2,h3,h4=>by
  have h1':l[k]? =some x:=by simpa using h1
  have h2':l[k+1]? =some y:=by simpa using h2
  cases l with
  |nil=>simp at h1'
  |cons b l=>
   have h5:K7 ((b::l).take (k+1)):=h3.2
   exact⟨h3.1,Yt h1' h2' h5 h4⟩
theorem Aic{l:List Mt}{i:Nat}{x y:Mt}(h:K7 l)(hx:l[i]? =some x)(hy:l[i+1]? =some y):Zw x.d y.d<0:=
 Uk (riseM_iff.1 h) (by rw[LR,hx];rfl) (by rw[LR,hy];rfl) (Nat.lt_succ_self i)
theorem Aid (l:List Mt):K7 (l.take 1):=by
 cases l with
 |nil=>trivial
 |cons a l=>simp[K7]
end Go.Proofs.YtgnmkiafeplbpaaGreatDoor
namespace Go.Proofs.YtgnmkiafeplbpaaGreatDoor
open Go.RowKit Go.Deep
def XQ (l:List DlV):List Value:=l.flatMap λx=>x.cells.toList
theorem Al5{W:World}{A:Option Addr}{l:List DlV}(hr:Rd W A (XQ l)){k:Nat}{x:DlV}(hx:l[k]? =some x):∃ad,A=some ad/\∀(j:Nat) (u:Value),x.cells.toList[j]? =some u->W.cell? ((ad.add (k*3)).add j)=some u:=
 Agz (c:=λx:DlV=>x.cells.toList) (sz:=3) (λ_=>rfl) (by decide) hr hx
instance St.dlok_all{l:List DlV}:St (λW=>∀x∈l,DlOk W x):=⟨λh b x hx=>(h x hx).go b⟩
def AmC (l:List DlV)(d:Dl)(e:Ending):Prop:=∃r:Int,e=.returned (.int .i64 r)/\(0<=r<->d∈l.map λx=>x.d)
theorem Ajl (A:Option Addr)(cap:Nat)(l:List DlV)(y:DlV)(w:World)(hr:Rd w A (XQ l))(hl:l.length<=1000000)(hok:∀x∈l,DlOk w x)(hy:DlOk w y)(hrise:K6 (l.map λx=>x.d)):
 Calls Tryz.prog 57 #[.slice A l.length cap,.agg y.cells] w λe w'=>AmC l y.d e/\Below w.heap.size w w':=by
 have aq:(l.length:Int)<=1000000:=by omega
 have p:=Lv hrise;clear hl hrise;go_enter Tryz.func57,Tryz.ntmps57
 go_wp2_with (refine Qx _ _ rfl ?_)
 refine Stop.to ?_;refine Qf rfl 91 _ rfl y.cells rfl ?_;intro G Gw Gh Gr Gb;have b1:=(Below.refl w.heap.size w).trans (Gb.mono Gh);obtain⟨S,g⟩:∃S,S=(λW=>(Row W G 91 y.cells/\Rd W A (XQ l))/\((∀x∈l,DlOk W x)/\(∀x∈[y],DlOk W x))/\Below w.heap.size w W):=⟨_,rfl⟩;have ax:St S:=by rw[g];infer_instance
 have T0:Hid (∀W,S W->Row W G 91 y.cells):=by show ∀W,_;rw[g];exact λW h=>h.1.1
 have T1:Hid (∀W,S W->Rd W A (XQ l)):=by show ∀W,_;rw[g];exact λW h=>h.1.2
 have T2:Hid (∀W,S W->∀x∈l,DlOk W x):=by show ∀W,_;rw[g];exact λW h=>h.2.1.1
 have T3:Hid (∀W,S W->DlOk W y):=by show ∀W,_;rw[g];exact λW h=>h.2.1.2 y (by simp)
 have T4:Hid (∀W,S W->Below w.heap.size w W):=by show ∀W,_;rw[g];exact λW h=>h.2.2
 have q:S Gw:=by rw[g];exact⟨⟨Gr,hr.go b1⟩,⟨λx s=>(hok x s).go b1,λx s=>by rw[L8.1 s];exact hy.go b1⟩,b1⟩
 clear g Gr Gb Gh b1 hr hok hy;go_wp2_with fail
 go_step3
 go_wp2_with fail
 go_step3
 go_wp2_with fail
 go_loopw [5,6,7] (λa b f wr=>∃o k:Nat,a=.int .i64 (o:Int)/\b=.int .i64 (k:Int)/\f=.int .i64 (-1)/\o<=k/\k<=l.length/\Hid (∀i:Nat,(l.map λx=>x.d)[i]? =some y.d->o<=i/\i<k)/\S wr) (λa b _ _=>(intOf b-intOf a).toNat)
 case atStart=>exact⟨0,l.length,rfl,rfl,rfl,Nat.zero_le _,Nat.le_refl _,Lv (λi k=>⟨Nat.zero_le _,by have:=(Lf.1 k).1;simpa using this⟩),q⟩
 case round=>
  clear q;obtain⟨o,k,rfl,rfl,rfl,ar,ak,v,q⟩:=hrel;by_cases ae:o<k;rotate_left
  ·have ap:¬((o:Int)<(k:Int)):=by omega
   have ai:Hid (y.d∉l.map λx=>x.d):=λhm=>by
    obtain⟨i,n⟩:=List.getElem?_of_mem hm;have:=v.out i n;omega
   clear ae;go_wp2_with fail
   try rw[Exit.noGoto_ret]
   go_ret
   exact⟨⟨-1,rfl,by simp;exact λx s e=>ai.out (LL.2 ⟨x,s,e⟩)⟩,T4.out _ q⟩
  obtain⟨d,hd⟩:∃d:Nat,d=(k-o) / 2:=⟨_,rfl⟩;have ao:((k:Int)-(o:Int)) / 2=(d:Int):=by omega
  obtain⟨m,hm⟩:∃m:Nat,m=o+d:=⟨_,rfl⟩;have av:(o:Int)+(d:Int)=(m:Int):=by omega
  have af:o<=m/\m<k:=by omega
  obtain⟨x,s⟩:∃x,l[m]? =some x:=⟨_,Ld (by omega)⟩;obtain⟨ad,ab,_⟩:=Al5 (T1.out _ q) s
  have Hc:Hid (∀W,S W->∀(j:Nat) (u:Value),x.cells.toList[j]? =some u->W.cell? ((ad.add (m*3)).add j)=some u):=λW h=>by
   obtain⟨an,e1,e2⟩:=Al5 (T1.out W h) s;rw[ab]at e1;injection e1 with e1;subst e1;exact e2
  have Hx:=Lv s;have al:(o:Int)<(k:Int):=by omega
  have aw:0<=(k:Int)-(o:Int):=by omega
  have am:(m:Int)<(l.length:Int):=by omega
  have aa:=Lv (Li s);clear hd hm ae s;subst ab;go_wp2_with fail
  refine QG S (by kernel_rfl) (by kernel_rfl) (St.drew q) ?_;clear q
  iterate 3 (refine Qe rfl ?_ (λW z=>?_) ?_;rotate_left;(focus(go_simp;exact rfl));simp only[Act.put,Qa,Qb,Qc])
  (refine QW rfl 91 _ rfl ((ad.add (m*3))) rfl x.cells.toList _ Hc.out Tryz.underlying91 rfl (by kernel_rfl) ?_;simp only[Act.put,Qa,Qb,Qc]);(refine ZN rfl 91 _ rfl (G) rfl 91 _ _ (λW z=>T0.out W z) Tryz.underlying91 rfl (by kernel_rfl) ?_;simp only[Act.put,Qa,Qb,Qc]);(refine QA rfl 128 _ (λW=>by(go_simp;try rfl)) (.int .i64 (Zw x.d y.d)) (λW z=>VT x y W (T2.out W z x aa.out) (T3.out W z)) ?_;simp only[Act.put,Qa,Qb,Qc])
  (refine Qe rfl ?_ (λW z=>?_) ?_;rotate_left;(focus(go_simp;exact rfl));simp only[Act.put,Qa,Qb,Qc]);refine QE λW q=>?_
  have ac:=AkU x.d y.d;have Hm:Hid ((l.map λx=>x.d)[m]? =some x.d):=Lv (by simp[Hx.out]);obtain⟨c,hc⟩:∃c,c=Zw x.d y.d:=⟨_,rfl⟩;have t:=Lv hc;rw[<-hc]at ac;rw[<-hc];clear hc;rcases ac with rfl|rfl|rfl
  ·have ah:=Lv (AlI p.out Hm.out (d:=y.d) (by have:=t.out;omega));have au:(m:Int)<1000000:=by omega
   go_wp2_with fail
   refine⟨⟨m+1,k,by simp,rfl,rfl,af.2,ak,Lv (λi n=>⟨ah.out i n,(v.out i n).2⟩),q⟩,?_⟩;simp only[intOf];omega
  ·have aj:x.d=y.d:=cmpD_eq.1 t.out.symm;go_wp2_with fail
   try rw[Exit.noGoto_ret]
   go_ret
   exact⟨⟨m,rfl,by simp only[Int.natCast_nonneg,true_iff];rw[<-aj];exact Li Hm.out⟩,T4.out _ q⟩
  ·have ag:=Lv (AlH p.out Hm.out (d:=y.d) (by have:=t.out;omega));go_wp2_with fail
   refine⟨⟨o,m,rfl,rfl,rfl,af.1,by omega,Lv (λi n=>⟨(v.out i n).1,ag.out i n⟩),q⟩,?_⟩;simp only[intOf];omega
end Go.Proofs.YtgnmkiafeplbpaaGreatDoor
