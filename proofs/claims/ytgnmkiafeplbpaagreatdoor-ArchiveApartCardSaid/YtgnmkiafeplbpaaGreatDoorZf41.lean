/- Lemmas for ArAll. -/
import Derived.Test.YtgnmkiafeplbpaaGreatDoorZf1
import Derived.Test.YtgnmkiafeplbpaaGreatDoorZf36
import Derived.Test.YtgnmkiafeplbpaaGreatDoorZf28
set_option linter.unusedVariables false
set_option linter.unusedSimpArgs false
set_option maxRecDepth 100000
set_option maxHeartbeats 16000000
namespace Go.Proofs.YtgnmkiafeplbpaaGreatDoor
open Go.RowKit Go.Deep
attribute [local go_sem] Oper.semAt_some
theorem Adl:∀l:List UInt8,YN l<256 ^ l.length
 |[]=>by simp[YN]
 |b::l=>by
  have h:=Adl l
  have hb:=b.toNat_lt
  rw[YN,Le,Nr]
  omega
theorem AcB:∀(l:List UInt8) (b:UInt8),YN (l++[b])=YN l+b.toNat*256 ^ l.length
 |[],b=>by simp[YN]
 |c::l,b=>by
  rw[Lk,YN,AcB l b,YN,Le,Nr,Nat.mul_add, <-Nat.mul_assoc,Nat.mul_comm 256 b.toNat,Nat.mul_assoc b.toNat 256,Nat.mul_comm 256 (256 ^ l.length)]
  omega
theorem AjR (n c k:Nat)(hk:k<4)(hn:n<256 ^ k)(hc:c<256):bits .or .i64 (n:Int) (wrap64 ((c:Int)*2 ^ (8*k)))=((n+c*256 ^ k:Nat):Int):=by
 have a:(256:Nat) ^ k=2 ^ (8*k):=by rw[show(256:Nat)=2 ^ 8 from rfl, <-Nat.pow_mul]
 have h:256 ^ k<=256 ^ 3:=Nat.pow_le_pow_right (by decide) (by omega);have j:(256:Nat) ^ 3=16777216:=by decide
 have g:c*256 ^ k<=255*16777216:=Nat.mul_le_mul (by omega) (by omega);have e:(c:Int)*2 ^ (8*k)=((c*256 ^ k:Nat):Int):=by rw[a];simp
 rw[e,IntWalk.wrap64_in _ (by omega)];show IntKind.i64.wrap ((BitVec.ofInt 64 (n:Int) |||BitVec.ofInt 64 ((c*256 ^ k:Nat):Int)).toNat:Int)=_
 have d:(BitVec.ofInt 64 (n:Int) |||BitVec.ofInt 64 ((c*256 ^ k:Nat):Int)).toNat=n+c*256 ^ k:=by
  rw[BitVec.toNat_or,BitVec.ofInt_natCast,BitVec.ofInt_natCast,BitVec.toNat_ofNat,BitVec.toNat_ofNat,LE (by omega),LE (by omega),Nat.or_comm];have:=Nat.shiftLeft_add_eq_or_of_lt (i:=8*k) (b:=n) (by rw[<-a];exact hn) c;rw[Nat.shiftLeft_eq, <-a]at this;rw[<-this];omega
 rw[d];exact IntWalk.i64_in _ (by omega)
theorem Aen:(Tryz.prog.info? 48).map (λi=>(i.zero,i.size,i.bytes))=some (some (.agg (QO ⟨0,[]⟩)),2,24):=by kernel_rfl
theorem AcP (l:List Sec):∀u∈Zy l,u.oneCell'=true:=by
 intro u a;unfold Zy at a;obtain⟨x,_,b⟩:=N7.1 a;simp[QO]at b;rcases b with rfl|rfl<;>rfl
theorem Vt (a b:List Sec):Zy (a++b)=Zy a++Zy b:=by unfold Zy;rw[LM]
structure OpL (w W:World)(S E lim f a:Nat)(T:List UInt8)(l:List Sec)(v:Value):Prop where
 row:Row W S 43 #[v]
 er:Row W E 34 #[.int .i64 0]
 own:W.ownsRow lim 48 2 v l.length (Zy l)
 below:Below w.heap.size w W
 lim:lim<=W.heap.size
 le:7<=f/\f<=a
 eq:T.drop 7=Qq l++T.drop f
 may:∀x∈l,UZ x
theorem OpL.go{w W W':World}{S E lim f a:Nat}{T:List UInt8}{l:List Sec}{v:Value}(h:OpL w W S E lim f a T l v)(b:Below W.heap.size W W'):OpL w W' S E lim f a T l v:=
 ⟨h.row.below b h.row.lt,h.er.below b h.er.lt,QU h.own b,h.below.trans (b.mono h.below.size),Lj h.lim b.size,h.le,h.eq,h.may⟩
theorem OpL.rd{w W:World}{S E lim f a n cap:Nat}{T:List UInt8}{l:List Sec}{A:Option Addr}(h:OpL w W S E lim f a T l (.slice A n cap)):Rd W A (Zy l)/\n=l.length/\∀ad,A=some ad->lim<=ad.block:=by
 obtain⟨d,g,e,c,_,_,_,b⟩:=JM h.own;injection e with e1 e2 e3;subst e1;exact⟨c,e2,b⟩
instance St.opl{w:World}{S E lim f a:Nat}{T:List UInt8}{l:List Sec}{v:Value}:St (λW=>OpL w W S E lim f a T l v):=⟨λh b=>h.go b⟩
theorem AbO{a:Act}{k j:Nat}{v:Value}(h:k≠j):(a.put (some k) v).tmps.getD j undef=a.tmps.getD j undef:=by
 simp only[Act.put,Array.getD_eq_getD_getElem?];rw[Nv h]
theorem Ajn (s:List UInt8)(at_:Nat)(hs:s.length<=900000)(ha:at_<=s.length){x:Sec}{y:List UInt8}(h:KD (s.drop at_)=some (x,y))(w:World):∃p,y=(s.drop at_).drop p/\p<=(s.drop at_).length/\
 Calls Tryz.prog 75 #[.string ⟨s.toArray⟩,.int .i64 (at_:Int)] w λe w'=>e=.returned (.tuple #[.agg (QO x),.int .i64 ((at_+p:Nat):Int),.int .i64 0])/\Below w.heap.size w w':=by
 rcases AgA (s.drop at_)with⟨d,g,i,j,a,b⟩|⟨_,a⟩
 ·rw[h]at a;injection a with a;injection a with a h2;refine⟨_,h2,b,(Acj s at_ hs ha w).mono λe w' h=>⟨?_,h.2⟩⟩;have c:=h.1;rw[if_pos ⟨d,g,i,j⟩, <-a]at c;exact c
 ·rw[h]at a;cases a
theorem AhI (s:List UInt8)(at_:Nat)(hs:s.length<=900000)(ha:at_<=s.length)(h:KD (s.drop at_)=none)(w:World):
 Calls Tryz.prog 75 #[.string ⟨s.toArray⟩,.int .i64 (at_:Int)] w λe w'=>(∃er:Int,er≠0/\e=.returned (.tuple #[.agg (QO ⟨0,[]⟩),.int .i64 (at_:Int),.int .i64 er]))/\Below w.heap.size w w':=by
 rcases AgA (s.drop at_)with⟨_,_,_,_,a,_⟩|⟨c,_⟩
 ·rw[h]at a;cases a
 ·refine(Acj s at_ hs ha w).mono λe w' h=>⟨?_,h.2⟩;have b:=h.1;rw[if_neg c]at b;exact b
theorem Aiz (w:World):(zeroValue 43).run Tryz.prog w=.ok (.slice none 0 0) w:=by kernel_rfl
structure OpenR (z:List Sec×Int)(w w':World)(e:Ending):Prop where
 ex:∃A cap,e=.returned (.tuple #[.slice A z.1.length cap,.int .i64 z.2])/\Rd w' A (Zy z.1)/\Below w.heap.size w w'/\∀ad,A=some ad->w.heap.size<=ad.block
theorem AeG (s:List UInt8)(hs:s.length<=900000)(w:World):
 Calls Tryz.prog 17 #[.string ⟨s.toArray⟩] w λe w'=>OpenR (Z8 s) w w' e:=by
 have ck:(⟨s.toArray⟩:ByteArray).size=s.length:=by simp[ByteArray.size]
 have cj:(s.length:Int)<=900000:=by omega
 obtain⟨z,hz⟩:∃z,z=Z8 s:=⟨_,rfl⟩;have Hz:=Lv hz;rw[<-hz];clear hz;have cf:∀(fn:Fn) (first cap:Array Value) (w:World),(Instr.makeFunc fn first cap).run Tryz.prog w=.ok (.func fn first cap) w:=λ_ _ _ _=>rfl
 go_enter_defers Tryz.func17,Tryz.ntmps17
 go_wp2_with (refine Qs _ rfl ?_)
 refine Stop.to ?_;refine Qi rfl 43 rfl _ _ (Aiz _) rfl ?_;intro S w1 hS rS bS;go_wp2_with (refine Qs _ rfl ?_)
 refine Stop.to ?_;refine Qi rfl 34 rfl _ _ (AcZ _) rfl ?_;intro E w2 hE rE bE;have aj:=rS.below (bE.mono hE) rS.lt;have aa:Below w.heap.size w w2:=(bS.mono hS).trans (bE.mono (Lj (bS.mono hS).size hE));have g:Hid (w.heap.size<=S/\S<E):=⟨hS,by have:=rS.lt;omega⟩;clear rS bS bE hS hE;go_wp2_with fail
 rw[decide_eq_true (by omega)];refine(KR 4 w2).mono ?_;rintro e w3 ⟨rfl,rfl⟩;by_cases a9:15<=s.length
 ·obtain⟨n,hn⟩:∃n,s.length=n+8:=⟨s.length-8,by omega⟩;have b0:(⟨s.toArray⟩:ByteArray).extract 0 7=⟨(s.take 7).toArray⟩:=by rw[KV];simp
  have bq:(⟨s.toArray⟩:ByteArray).extract (n+4) s.length=⟨(s.drop (n+4)).toArray⟩:=by rw[KV,Lm (by simp)]
  obtain⟨p,hp⟩:∃p,p=s.take 7:=⟨_,rfl⟩;obtain⟨q,hq⟩:∃q,q=s.drop (n+4):=⟨_,rfl⟩;rw[<-hp]at b0;rw[<-hq]at bq;have cl:(⟨s.toArray⟩:ByteArray).extract (n+4) (n+8)=⟨q.toArray⟩:=by rw[<-hn];exact bq
  have ba:(15:Int)<=(s.length:Int):=by omega
  have ch:(s.length:Int)-4=((n+4:Nat):Int):=by omega
  have Hp:=Lv hp;have Hq:=Lv hq;clear hp hq a9;by_cases hA:p=[77,85,84,65,82,67,1]
  ·subst hA;by_cases hB:q=[69,78,68,46]
   ·subst hB;go_wp2_with fail
    refine(KR 7 w3).mono ?_;rintro e w4 ⟨rfl,rfl⟩;obtain⟨u,hu⟩:∃u,u=(s.drop n).take 4:=⟨_,rfl⟩;have bz:u.length=4:=by rw[hu,LH,LN];omega
    have bf:UY s=YN u:=by unfold UY;rw[hn,Nat.add_sub_cancel, <-hu]
    have Hu:=Lv hu;have a6:=Lv bf;have cg:(s.length:Int)-8=(n:Int):=by omega
    clear hu bf;go_wp2_with fail
    go_loopw [5,32] (λa i W=>∃k:Nat,i=.int .i64 (k:Int)/\k<=4/\a=.int .i64 (YN (u.take k):Int)/\W=w4) (λ_ i _=>4-(intOf i).toNat)
    case atStart=>exact⟨0,rfl,by omega,by simp[YN],rfl⟩
    case round=>
     obtain⟨k,rfl,hk,rfl,rfl⟩:=hrel;by_cases av:k<4
     ·have bk:(k:Int)<4:=by omega
      obtain⟨b,hb⟩:∃b,u[k]? =some b:=⟨_,Ld (by omega)⟩;obtain⟨m,hm⟩:∃m,m=n+k:=⟨_,rfl⟩;have ce:(n:Int)+(k:Int)=(m:Int):=by omega
      have bp:s[m]? =some b:=by
       rw[Hu.out,Nc av,Ni]at hb;rw[hm];exact hb
      have cc:=Adh bp;have cd:(m:Int)<(s.length:Int):=by omega
      have b9:(b.toNat:Int)<256:=by have:=b.toNat_lt;omega
      have Hm:=Lv hm;have Hb:=Lv hb;clear hm bp hb;go_wp2_with fail
      refine⟨⟨k+1,by simp,by omega,?_,trivial⟩,by simp only[intOf];omega⟩;have bl:(u.take k).length=k:=by rw[LH];omega
      rw[AjR _ _ k av (by have:=Adl (u.take k);rw[bl]at this;exact this) b.toNat_lt,L5,Hb.out];show _=Value.int .i64 ((YN (u.take k++[b]):Nat):Int);rw[AcB,bl]
     ·obtain rfl:k=4:=by omega
      rw[Lm (by omega), <-a6.out];obtain⟨a,ha⟩:∃a,a=UY s:=⟨_,rfl⟩;have b8:a<4294967296:=by rw[ha,a6.out];have:=Adl u;rw[bz]at this;exact this
      rw[<-ha];have Ha:=Lv ha;clear av hk ha;by_cases h9:a<7\/n<a
      ·obtain rfl:z=([],9):=Hz.out.trans (by
         unfold Z8
         rw[if_neg (by omega),if_neg (λh=>h ⟨by omega,Hp.out.symm,by rw[hn];exact Hq.out.symm⟩),if_pos (by rw[hn, <-Ha.out];omega)])
       clear Hz;by_cases h7:a<7
       ·have bb:¬(7:Int)<=(a:Int):=by omega
        go_wp2_with fail
        refine(Kz 9 wr).mono ?_;rintro e w4 ⟨rfl,rfl⟩;go_wp2_with fail
        refine leaves_cons (f:=73) (args:=#[.pointer (some ⟨S,0,none⟩),.pointer (some ⟨E,0,none⟩)]) (by simp) (by simp[go_sem]) ?_;refine(J0 S E 9 0 (.slice none 0 0) [] w4 aj rE).mono ?_;rintro e u' w9 ⟨rfl,rfl,r9,q9,j⟩;refine⟨_,QN Tryz.results17 _ _ ⟨S,0,none⟩ ⟨E,0,none⟩ (.slice none 0 0) (.int .i64 9) rfl rfl ?_ ?_,?_⟩
        ·have c9:=r9.cellv (i:=0) (v:=.slice none 0 0) rfl;go_simp
        ·have c9:=q9.cellv (i:=0) (v:=.int .i64 9) rfl;go_simp
        exact⟨none,0,rfl,λ_ _ h=>(by simp[Zy]at h),(aa.trans (j.below g.out.1 (Lj g.out.1 (L9 g.out.2)) aa.size)),λ_ h=>by cases h⟩
       ·have bb:(7:Int)<=(a:Int):=by omega
        have bu:¬(a:Int)<=(n:Int):=by omega
        go_wp2_with fail
        refine(Kz 9 wr).mono ?_;rintro e w4 ⟨rfl,rfl⟩;go_wp2_with fail
        refine leaves_cons (f:=73) (args:=#[.pointer (some ⟨S,0,none⟩),.pointer (some ⟨E,0,none⟩)]) (by simp) (by simp[go_sem]) ?_;refine(J0 S E 9 0 (.slice none 0 0) [] w4 aj rE).mono ?_;rintro e u' w9 ⟨rfl,rfl,r9,q9,j⟩;refine⟨_,QN Tryz.results17 _ _ ⟨S,0,none⟩ ⟨E,0,none⟩ (.slice none 0 0) (.int .i64 9) rfl rfl ?_ ?_,?_⟩
        ·have c9:=r9.cellv (i:=0) (v:=.slice none 0 0) rfl;go_simp
        ·have c9:=q9.cellv (i:=0) (v:=.int .i64 9) rfl;go_simp
        exact⟨none,0,rfl,λ_ _ h=>(by simp[Zy]at h),(aa.trans (j.below g.out.1 (Lj g.out.1 (L9 g.out.2)) aa.size)),λ_ h=>by cases h⟩
      ·have bb:(7:Int)<=(a:Int):=by omega
       have bu:(a:Int)<=(n:Int):=by omega
       go_wp2_with fail
       refine(KR 9 wr).mono ?_;rintro e w4 ⟨rfl,rfl⟩;obtain⟨T,hT⟩:∃T,T=s.take a:=⟨_,rfl⟩;have b6:T.length=a:=by rw[hT,LH];omega
       have cm:(⟨s.toArray⟩:ByteArray).extract 0 a=⟨T.toArray⟩:=by rw[KV,hT];simp
       have HT:=Lv hT;obtain⟨lim,ai⟩:∃lim,lim=w4.heap.size:=⟨_,rfl⟩;have bd:Hid (S<lim/\E<lim/\w.heap.size<=lim):=⟨by rw[ai];exact aj.lt,by rw[ai];exact rE.lt,by rw[ai];exact aa.size⟩;have H0:Hid (OpL w w4 S E lim 7 a T [] (.slice none 0 0)):=⟨aj,rE,World.ownsRow_nil _ _ _ _,aa,LI ai,⟨Nat.le_refl _,by omega⟩,by simp[Qq],λx h=>by simp at h⟩;have h9:7<=a/\a<=n:=by omega
       clear hT ai aj rE aa;go_wp2_with fail
       go_loopw [7] (λi W=>∃(f:Nat) (l:List Sec) (v:Value),i=.int .i64 (f:Int)/\OpL w W S E lim f a T l v) (λi _=>a-(intOf i).toNat)
       case atStart=>exact⟨7,[],_,rfl,H0.out⟩
       case round=>
        obtain⟨f,l,v,rfl,hL⟩:=hrel;have ca:=hL.le;by_cases av:f<a
        ·have bk:(f:Int)<(a:Int):=by omega
         cases h1:KD (T.drop f)with
         |some xy=>
          obtain⟨x,y⟩:=xy;obtain⟨p,hy,bn,hG⟩:=Ajn T f (by omega) (by omega) h1 wr;obtain⟨ak,ay⟩:=Aee h1;rw[hy]at ak;clear hy h1
          have ci:0<p:=by
           have e1:=congrArg List.length ak;have e2:=UB x;have e3:((T.drop f).drop p).length=(T.drop f).length-p:=LN;rw[La]at e1;omega
          have bj:f+p<=a:=by rw[LN]at bn;omega
          have af:T.drop 7=Qq (l++[x])++T.drop (f+p):=by
           rw[hL.eq,ak,Nf];unfold Qq;rw[LM];simp
          have au:Hid ((7<=f+p/\f+p<=a)/\T.drop 7=Qq (l++[x])++T.drop (f+p)/\∀y∈l++[x],UZ y):=⟨⟨by omega,bj⟩,af,λy hy=>by
           rcases LG.1 hy with h|h
           ·exact hL.may y h
           ·rw[L8.1 h];exact ay⟩
          have bm:l.length+1<=1000000:=by
           have e1:=Yc (l++[x]);have e2:=congrArg List.length af;rw[La,LN]at e2;rw[La,Nb]at e1;omega
          have HG:=Lv hG;have HL:=Lv hL;clear hG ak ay af hL bn bj;go_wp2_with fail
          refine HG.out.mono ?_;rintro e w5 ⟨rfl,b5⟩;have o:Hid (OpL w w5 S E lim f a T l v):=HL.out.go b5;clear HG HL b5;go_wp2_with (refine Qs _ rfl ?_)
          refine Stop.to ?_;refine Qi rfl 48 rfl _ _ (Ya _) rfl ?_;intro M V0 hM rM bM;go_wp2_with (refine Qk _ _ _ rfl ?_)
          refine Stop.to ?_;refine Qh rfl 48 _ _ rfl M (QO x) rfl rfl 48 _ rM (by kernel_rfl) rfl (by simp[QO,Value.oneCell']) ?_;intro V1 a5 o1;have ae:Hid (OpL w V1 S E lim f a T l v):=o.out.go ((bM.mono hM).trans (o1.below hM));clear rM bM o1 hM o;go_wp2_with fail
          refine(KR 8 V1).mono ?_;rintro e V2 ⟨rfl,rfl⟩;have c6:=ae.out.row.cellv (i:=0) (v:=v) rfl;go_wp2_with (first| (refine Qn rfl 48 _ rfl ⟨M,0,none⟩ rfl (QO x).toList _ (Vp a5) Tryz.underlying48 rfl (by kernel_rfl) ?_)| (refine QY _ _ _ rfl ?_))
          refine Stop.to ?_;refine Qw rfl 43 1 _ rfl 48 (QO x) (λW=>by kernel_rfl) ?_;intro M2 V3 bc bs a8;have t:=ae.out.go (a8.mono bc);obtain⟨v8,V4,an,ac,ah, -⟩:=Zq (P:=Tryz.prog) 43 48 (.agg (QO ⟨0,[]⟩)) 2 24 Tryz.underlying43 Aen rfl (by decide) (by decide) t.own t.lim (Z6 (cs:=(QO x).toList) (by simpa using bs)) (m:=1) (cap:=1) rfl (by simpa[Zy]using AcP [x]) (by simp) bm;have al:=t.row.grown ah (QK t.own t.row (by decide));have aw:=t.er.grown ah (QK t.own t.er (by decide));have o9:=Qu V4 S 0 v8;have az:=Za ac o9 (QK ac al (by decide))
          have HN:Hid (OpL w (V4.setCell ⟨S,0,none⟩ v8) S E lim (f+p) a T (l++[x]) v8):=⟨al.set 0 v8,aw.only o9 (by have:=g.out.2;omega),by rw[Vt,La];simpa[Zy]using az,
           Ql (QJ t.below t.own ah t.below.size bd.out.2.2) o9 g.out.1,by rw[o9.size];exact Lj t.lim ah.size,au.out.1,au.out.2.1,au.out.2.2⟩
          obtain⟨A3,m3,d3,rfl⟩:=Ji ac;have c9:=al.cellv (i:=0) (v:=v) rfl;have f9:=al.free 0;have a0:=Lv an;clear an ac ah aw o9 az t ae c6 bc bs a8 a5;refine Zc rfl _ (QF rfl a0.out) ?_;go_wp2_with fail
          go_roundw
          case rel=>exact⟨f+p,l++[x],_,by go_num,HN.out⟩
          case measure=>simp[intOf];have:=au.out.1;omega
         |none=>
          have hr:T.drop f≠[]:=λh=>by have:=congrArg List.length h;rw[LN]at this;simp at this;omega
          have hG:=AhI T f (by omega) (by omega) h1 wr
          have ag:AaH s=none:=by
           unfold AaH;rw[<-Ha.out, <-HT.out,hL.eq];exact Ach hL.may hr h1
          obtain rfl:z=([],8):=Hz.out.trans (by
           unfold Z8
           rw[if_neg (by omega),if_neg (λh=>h ⟨by omega,Hp.out.symm,by rw[hn];exact Hq.out.symm⟩),if_neg (by rw[hn, <-Ha.out];omega),ag])
          have HG:=Lv hG;have HL:=Lv hL;clear Hz hG hL ag hr h1;go_wp2_with fail
          refine HG.out.mono ?_;rintro e w5 ⟨⟨er,bw,rfl⟩,b5⟩;have o:Hid (OpL w w5 S E lim f a T l v):=HL.out.go b5;clear HG HL b5;go_wp2_with (refine Qs _ rfl ?_)
          refine Stop.to ?_;refine Qi rfl 48 rfl _ _ (Ya _) rfl ?_;intro M V0 hM rM bM;go_wp2_with (refine Qk _ _ _ rfl ?_)
          refine Stop.to ?_;refine Qh rfl 48 _ _ rfl M (QO ⟨0,[]⟩) rfl rfl 48 _ rM (by kernel_rfl) rfl (by simp[QO,Value.oneCell']) ?_;intro V1 a5 o1;have ae:Hid (OpL w V1 S E lim f a T l v):=o.out.go ((bM.mono hM).trans (o1.below hM));clear rM bM o1 hM o;go_wp2_with fail
          rw[show(er==0)=false from by simpa using bw];refine(Kz 8 V1).mono ?_;rintro e V2 ⟨rfl,rfl⟩;go_wp2_with fail
          refine leaves_cons (f:=73) (args:=#[.pointer (some ⟨S,0,none⟩),.pointer (some ⟨E,0,none⟩)]) (by simp) (by simp[go_sem]) ?_;refine(J0 S E 8 0 v [] V2 ae.out.row ae.out.er).mono ?_;rintro e u' w9 ⟨rfl,rfl,r9,q9,j⟩;refine⟨_,QN Tryz.results17 _ _ ⟨S,0,none⟩ ⟨E,0,none⟩ (.slice none 0 0) (.int .i64 8) rfl rfl ?_ ?_,?_⟩
          ·have c9:=r9.cellv (i:=0) (v:=.slice none 0 0) rfl;go_simp
          ·have c9:=q9.cellv (i:=0) (v:=.int .i64 8) rfl;go_simp
          exact⟨none,0,rfl,λ_ _ h=>(by simp[Zy]at h),(ae.out.below.trans (j.below g.out.1 (Lj g.out.1 (L9 g.out.2)) ae.out.below.size)),λ_ h=>by cases h⟩
        ·have bi:f=a:=by omega
         rw[bi]at hL;have be:T.drop a=[]:=List.drop_eq_nil_of_le (by omega);have af:=hL.eq;rw[be,LT]at af;have cb:(Qq l).length<=s.length:=by rw[<-af,LN];omega
         have bm:=Yc l
         have ag:AaH s=some l:=by
          unfold AaH;rw[<-Ha.out, <-HT.out,af];exact VW hL.may (by omega)
         have ap:Hid (z=if Kk l=false then([],20)else if s.drop a=Zh l then(l,0)else([],9)):=Hz.out.trans (by
          unfold Z8
          rw[if_neg (by omega),if_neg (λh=>h ⟨by omega,Hp.out.symm,by rw[hn];exact Hq.out.symm⟩),if_neg (by rw[hn, <-Ha.out];omega),ag, <-Ha.out])
         have hd:∀x∈l,x.d.length<=900000:=λx hx=>by have:=KQ hx;omega
         obtain⟨A,cap,rfl,bo, -, -, -,bx⟩:=JM hL.own;have ax:=Lv (EC A cap l wr bo (by omega));have c6:=hL.row.cellv (i:=0) (v:=.slice A l.length cap) rfl;have HL:=Lv hL;have br:(⟨s.toArray⟩:ByteArray).extract a s.length=⟨(s.drop a).toArray⟩:=by rw[KV,Lm (by simp)]
         have bk:¬(f:Int)<(a:Int):=by omega
         clear Hz ag be af hL bo;go_wp2_with fail
         refine ax.out.mono ?_;rintro e w5 ⟨rfl,b5⟩;have o:=Lv (HL.out.go b5);clear HL ax c6 b5;by_cases ho:Kk l=false
         ·obtain rfl:z=([],20):=ap.out.trans (if_pos ho);rw[ho];clear ap;go_wp2_with fail
          refine(Kz 20 w5).mono ?_;rintro e w6 ⟨rfl,rfl⟩;go_wp2_with fail
          refine leaves_cons (f:=73) (args:=#[.pointer (some ⟨S,0,none⟩),.pointer (some ⟨E,0,none⟩)]) (by simp) (by simp[go_sem]) ?_;refine(J0 S E 20 0 (.slice A l.length cap) [] w6 o.out.row o.out.er).mono ?_;rintro e u' w9 ⟨rfl,rfl,r9,q9,j⟩;refine⟨_,QN Tryz.results17 _ _ ⟨S,0,none⟩ ⟨E,0,none⟩ (.slice none 0 0) (.int .i64 20) rfl rfl ?_ ?_,?_⟩
          ·have c9:=r9.cellv (i:=0) (v:=.slice none 0 0) rfl;go_simp
          ·have c9:=q9.cellv (i:=0) (v:=.int .i64 20) rfl;go_simp
          exact⟨none,0,rfl,λ_ _ h=>(by simp[Zy]at h),(o.out.below.trans (j.below g.out.1 (Lj g.out.1 (L9 g.out.2)) o.out.below.size)),λ_ h=>by cases h⟩
         ·have a3:Kk l=true:=by simpa using ho
          rw[a3]
          have a7:Hid (SecOk l/\l.length<=16):=by
           have h0:=a3;unfold Kk at h0;simp only[LK,decide_eq_true_eq]at h0;exact⟨⟨λx hx=>Ye (Int.le_refl 0) h0.1 x hx,hd,by omega,by omega⟩,h0.2.2⟩
          obtain⟨y,hy⟩:∃y,y=Zh l:=⟨_,rfl⟩;obtain⟨D,hD⟩:∃D,D=s.drop a:=⟨_,rfl⟩;have am:=Lv (λW h=>Aal A cap l a7.out.1 a7.out.2 W h);rw[<-hy]at am;have aq:Hid (z=if D=y then(l,0)else([],9)):=ap.out.trans (by rw[if_neg ho,hy,hD]);rw[<-hD]at br;clear ap ho a3 hy hD hd;go_wp2_with fail
          refine(KR 20 w5).mono ?_;rintro e w6 ⟨rfl,rfl⟩;go_wp2_with fail
          have b7:(a:Int)<=(n:Int)+8:=by omega
          have b3:(⟨s.toArray⟩:ByteArray).extract a (n+8)=⟨D.toArray⟩:=by rw[<-hn];exact br
          by_cases ar:D=y
          ·obtain rfl:z=(l,0):=aq.out.trans (if_pos ar);subst ar;refine QG (λW=>OpL w W S E lim a a T l (.slice A l.length cap)) (by kernel_rfl) (by kernel_rfl) (St.drew (S:=λW=>OpL w W S E lim a a T l (.slice A l.length cap)) o.out) ?_;clear o aq
           iterate 3 (refine Qe rfl ?_ (λW hW=>?_) ?_;rotate_left;(focus(go_simp;exact rfl));simp only[Act.put,Qa,Qb,Qc])
           (refine Qe rfl ?_ (λW hW=>?_) ?_;rotate_left;(focus(have c:=hW.row.cellv (i:=0) (v:=.slice A l.length cap) rfl;go_simp;exact rfl));simp only[Act.put,Qa,Qb,Qc]);(refine QA rfl 77 _ (λW=>by(go_simp;try rfl)) (.string ⟨D.toArray⟩) (λW hW=>am.out W hW.rd.1) ?_;simp only[Act.put,Qa,Qb,Qc])
           (refine Qe rfl ?_ (λW hW=>?_) ?_;rotate_left;(focus(go_simp;exact rfl));simp only[Act.put,Qa,Qb,Qc]);(refine QA rfl 74 _ (λW=>by(go_simp;try rfl)) (.tuple #[]) (λW hW=>(KR 9 W).mono (λe w' h=>⟨h.1,by rw[h.2];exact Below.refl _ _⟩)) ?_;simp only[Act.put,Qa,Qb,Qc])
           refine QE λW9 ab=>?_
           have c9:=ab.row.cellv (i:=0) (v:=.slice A l.length cap) rfl;have f9:=ab.row.free 0;have o9:=Qu W9 S 0 (.slice A l.length cap);have bt:=ab.row.set 0 (.slice A l.length cap);have ao:=ab.er.only o9 (by have:=g.out.2;omega);have a4:=Za ab.own o9 (QK ab.own ab.row (by decide));have bg:=Ql ab.below o9 g.out.1;obtain⟨V,hV⟩:∃V,V=W9.setCell ⟨S,0,none⟩ (.slice A l.length cap):=⟨_,rfl⟩;rw[<-hV]at bt ao a4 bg;have HV:=Lv hV;clear hV o9 ab;have c8:=ao.cellv (i:=0) (v:=.int .i64 0) rfl;have f8:=ao.free 0;have o8:=Qu V E 0 (.int .i64 0);have al:=bt.only o8 (by have:=g.out.2;omega);have aw:=ao.set 0 (.int .i64 0);have b1:=Za a4 o8 (QK a4 ao (by decide));have bv:=Ql bg o8 (Lj g.out.1 (L9 g.out.2));rw[HV.out]at c8 f8;go_wp2_with fail
           rw[<-HV.out];refine leaves_cons (f:=73) (args:=#[.pointer (some ⟨S,0,none⟩),.pointer (some ⟨E,0,none⟩)]) (by simp) (by simp[go_sem]) ?_;refine(AjM S E _).mono ?_;rintro e u' w9 ⟨rfl,rfl,rfl⟩;refine⟨_,QN Tryz.results17 _ _ ⟨S,0,none⟩ ⟨E,0,none⟩ (.slice A l.length cap) (.int .i64 0) rfl rfl ?_ ?_,?_⟩
           ·have c9:=al.cellv (i:=0) (v:=.slice A l.length cap) rfl;go_simp
           ·have c9:=aw.cellv (i:=0) (v:=.int .i64 0) rfl;go_simp
           obtain⟨A',c',e,hr, -, -, -, -⟩:=JM b1;injection e with e1 e2 e3;subst e1;exact⟨_,_,rfl,hr,bv,λad e=>Lj bd.out.2.2 (bx ad e)⟩
          ·obtain rfl:z=([],9):=aq.out.trans (if_neg ar);have b4:(D==y)=false:=by simpa using ar
           clear aq;refine wp_mono (Q:=λe a' W=>match e with| .panic c=>c=[{ v:=erV 9,recovered:=false }]/\a'.defers=[{ target:=.fn (.func 73) #[.pointer (some ⟨S,0,none⟩),.pointer (some ⟨E,0,none⟩)],args:=#[] }]/\a'.tmps.getD 2 undef=.pointer (some ⟨S,0,none⟩)/\a'.tmps.getD 3 undef=.pointer (some ⟨E,0,none⟩)/\OpL w W S E lim a a T l (.slice A l.length cap)|_=>False) ?_ (λe a' W h=>?_)
           ·obtain⟨Vd,a2⟩:∃Vd,Vd=w6.drew:=⟨_,rfl⟩;have hS:OpL w Vd S E lim a a T l (.slice A l.length cap):=by rw[a2];exact St.drew (S:=λW=>OpL w W S E lim a a T l (.slice A l.length cap)) o.out
            refine wp_region_held (S:=λW=>OpL w W S E lim a a T l (.slice A l.length cap)) (by kernel_rfl) ?_;simp only[Ly,Le,Ll,Nat.reduceAdd,Ln,Lp,Lz,Lu,Lk];show wpAnyH _ _ _ _ _ _ _ _ w6.drew;rw[<-a2];clear a2 o;(refine AcW (i:=0) (v:=.string ⟨s.toArray⟩) rfl (by kernel_rfl) (by kernel_rfl) (by kernel_rfl) (λ_ _ _ h=>⟨h.1,h.2.1,(AbO (by decide)).symm.trans h.2.2.1,(AbO (by decide)).symm.trans h.2.2.2.1,h.2.2.2.2⟩) (Qd rfl (λW hW=>by(go_simp))) (by assumption) ?_;simp only[Act.put,Qa,Qb,Qc]);(refine AcW (i:=1) (v:=.int .i64 (a:Int)) rfl (by kernel_rfl) (by kernel_rfl) (by kernel_rfl) (λ_ _ _ h=>⟨h.1,h.2.1,(AbO (by decide)).symm.trans h.2.2.1,(AbO (by decide)).symm.trans h.2.2.2.1,h.2.2.2.2⟩) (Qd rfl (λW hW=>by(go_simp))) (by assumption) ?_;simp only[Act.put,Qa,Qb,Qc]);(refine AcW (i:=2) (v:=.string ⟨D.toArray⟩) rfl (by kernel_rfl) (by kernel_rfl) (by kernel_rfl) (λ_ _ _ h=>⟨h.1,h.2.1,(AbO (by decide)).symm.trans h.2.2.1,(AbO (by decide)).symm.trans h.2.2.2.1,h.2.2.2.2⟩) (Qd rfl (λW hW=>by(go_simp))) (by assumption) ?_;simp only[Act.put,Qa,Qb,Qc]);(refine AcW (i:=3) (v:=.slice A l.length cap) rfl (by kernel_rfl) (by kernel_rfl) (by kernel_rfl) (λ_ _ _ h=>⟨h.1,h.2.1,(AbO (by decide)).symm.trans h.2.2.1,(AbO (by decide)).symm.trans h.2.2.2.1,h.2.2.2.2⟩) (Qd rfl (λW hW=>by((have c:=hW.row.cellv (i:=0) (v:=.slice A l.length cap) rfl;go_simp)))) (by assumption) ?_;simp only[Act.put,Qa,Qb,Qc]);(refine wpAnyH_all (rs:=[4]) (by kernel_rfl) (by simp) (λi hi=>?_);obtain rfl:i=4:=by simpa using hi);refine Qg rfl rfl (λK2 a1=>?_);refine Qm 77 #[.slice A l.length cap] (w1:=Vd) (by go_simp;try rfl) ((am.out Vd hS.rd.1).mono ?_)
            rintro e W2 ⟨rfl,b2⟩;refine⟨_,rfl,?_⟩;refine a1 _ _ ?_;clear a1 K2;simp only[Act.put,Qa,Qb,Qc];replace hS:=hS.go b2;refine⟨hS,?_⟩;(refine AcW (i:=5) (v:=.bool false) rfl (by kernel_rfl) (by kernel_rfl) (by kernel_rfl) (λ_ _ _ h=>⟨h.1,h.2.1,(AbO (by decide)).symm.trans h.2.2.1,(AbO (by decide)).symm.trans h.2.2.2.1,h.2.2.2.2⟩) (Qd rfl (λW hW=>by(go_simp))) (by assumption) ?_;simp only[Act.put,Qa,Qb,Qc]);(refine wpAnyH_all (rs:=[6]) (by kernel_rfl) (by simp) (λi hi=>?_);obtain rfl:i=6:=by simpa using hi);refine Qg rfl rfl (λK2 a1=>?_);unfold Oper.wp;go_simp
            refine(Kz 9 W2).mono ?_;rintro e w7 ⟨rfl,rfl⟩;exact⟨rfl,hS⟩
           ·obtain⟨c,rfl⟩:∃c,e=.panic c:=by cases e<;>first|exact⟨_,rfl⟩|exact h.elim
            obtain⟨rfl,bh,h2,h3,hO⟩:=h;obtain⟨tm,df⟩:=a';simp only at bh h2 h3;subst bh;go_wp2_with fail
            refine leaves_cons (f:=73) (args:=#[.pointer (some ⟨S,0,none⟩),.pointer (some ⟨E,0,none⟩)]) (by simp) (by simp[go_sem]) ?_;refine(J0 S E 9 0 (.slice A l.length cap) [] W hO.row hO.er).mono ?_;rintro e u' w9 ⟨rfl,rfl,r9,q9,j⟩;refine⟨_,QN Tryz.results17 _ _ ⟨S,0,none⟩ ⟨E,0,none⟩ (.slice none 0 0) (.int .i64 9) h2 h3 ?_ ?_,?_⟩
            ·have c9:=r9.cellv (i:=0) (v:=.slice none 0 0) rfl;go_simp
            ·have c9:=q9.cellv (i:=0) (v:=.int .i64 9) rfl;go_simp
            exact⟨none,0,rfl,λ_ _ h=>(by simp[Zy]at h),hO.below.trans (j.below g.out.1 (Lj g.out.1 (L9 g.out.2)) hO.below.size),λ_ h=>by cases h⟩
   ·obtain rfl:z=([],7):=Hz.out.trans (by unfold Z8;rw[if_neg (by omega),if_pos λh=>hB (by rw[Hq.out];have:=h.2.2;rw[hn]at this;exact this)]);clear Hz;go_wp2_with fail
    rw[show(q==[69,78,68,46])=false from by simpa using hB];refine(Kz 7 w3).mono ?_;rintro e w4 ⟨rfl,rfl⟩;go_wp2_with fail
    refine leaves_cons (f:=73) (args:=#[.pointer (some ⟨S,0,none⟩),.pointer (some ⟨E,0,none⟩)]) (by simp) (by simp[go_sem]) ?_;refine(J0 S E 7 0 (.slice none 0 0) [] w4 aj rE).mono ?_;rintro e u' w9 ⟨rfl,rfl,r9,q9,j⟩;refine⟨_,QN Tryz.results17 _ _ ⟨S,0,none⟩ ⟨E,0,none⟩ (.slice none 0 0) (.int .i64 7) rfl rfl ?_ ?_,?_⟩
    ·have c9:=r9.cellv (i:=0) (v:=.slice none 0 0) rfl;go_simp
    ·have c9:=q9.cellv (i:=0) (v:=.int .i64 7) rfl;go_simp
    exact⟨none,0,rfl,λ_ _ h=>(by simp[Zy]at h),(aa.trans (j.below g.out.1 (Lj g.out.1 (L9 g.out.2)) aa.size)),λ_ h=>by cases h⟩
  ·obtain rfl:z=([],7):=Hz.out.trans (by unfold Z8;rw[if_neg (by omega),if_pos λh=>hA (by rw[Hp.out];exact h.2.1)]);clear Hz;go_wp2_with fail
   refine(Kz 7 w3).mono ?_;rintro e w4 ⟨rfl,rfl⟩;go_wp2_with fail
   refine leaves_cons (f:=73) (args:=#[.pointer (some ⟨S,0,none⟩),.pointer (some ⟨E,0,none⟩)]) (by simp) (by simp[go_sem]) ?_;refine(J0 S E 7 0 (.slice none 0 0) [] w4 aj rE).mono ?_;rintro e u' w9 ⟨rfl,rfl,r9,q9,j⟩;refine⟨_,QN Tryz.results17 _ _ ⟨S,0,none⟩ ⟨E,0,none⟩ (.slice none 0 0) (.int .i64 7) rfl rfl ?_ ?_,?_⟩
   ·have c9:=r9.cellv (i:=0) (v:=.slice none 0 0) rfl;go_simp
   ·have c9:=q9.cellv (i:=0) (v:=.int .i64 7) rfl;go_simp
   exact⟨none,0,rfl,λ_ _ h=>(by simp[Zy]at h),(aa.trans (j.below g.out.1 (Lj g.out.1 (L9 g.out.2)) aa.size)),λ_ h=>by cases h⟩
 ·obtain rfl:z=([],7):=Hz.out.trans (by unfold Z8;rw[if_neg (by omega),if_pos λh=>a9 h.1]);have ba:¬(15:Int)<=(s.length:Int):=by omega
  clear Hz;go_wp2_with fail
  refine(Kz 7 w3).mono ?_;rintro e w4 ⟨rfl,rfl⟩;go_wp2_with fail
  refine leaves_cons (f:=73) (args:=#[.pointer (some ⟨S,0,none⟩),.pointer (some ⟨E,0,none⟩)]) (by simp) (by simp[go_sem]) ?_;refine(J0 S E 7 0 (.slice none 0 0) [] w4 aj rE).mono ?_;rintro e u' w9 ⟨rfl,rfl,r9,q9,j⟩;refine⟨_,QN Tryz.results17 _ _ ⟨S,0,none⟩ ⟨E,0,none⟩ (.slice none 0 0) (.int .i64 7) rfl rfl ?_ ?_,?_⟩
  ·have c9:=r9.cellv (i:=0) (v:=.slice none 0 0) rfl;go_simp
  ·have c9:=q9.cellv (i:=0) (v:=.int .i64 7) rfl;go_simp
  exact⟨none,0,rfl,λ_ _ h=>(by simp[Zy]at h),(aa.trans (j.below g.out.1 (Lj g.out.1 (L9 g.out.2)) aa.size)),λ_ h=>by cases h⟩
end Go.Proofs.YtgnmkiafeplbpaaGreatDoor
