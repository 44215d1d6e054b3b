/- Lemmas for ArAll. -/
import Derived.Test.YtgnmkiafeplbpaaGreatDoorZf22
import Derived.Test.YtgnmkiafeplbpaaGreatDoorZf1
import Derived.Test.YtgnmkiafeplbpaaGreatDoorRows
import Derived.Maps.OwnIn
set_option linter.unusedVariables false
set_option linter.unusedSimpArgs false
set_option maxRecDepth 100000
set_option maxHeartbeats 16000000
namespace Go.Proofs.YtgnmkiafeplbpaaGreatDoor
open Go.RowKit Go.Deep
theorem Adh{s:List UInt8}{i:Nat}{b:UInt8}(h:s[i]? =some b)(W:World):(Instr.index 9 (.string ⟨s.toArray⟩) (.int .i64 (i:Int))).run Tryz.prog W=.ok (.int .u8 (b.toNat:Int)) W:=by
 have a:i<s.length:=(Lf.1 h).1;rw[run_index_string W _ _ _ _ Tryz.underlying9,dif_pos ⟨by omega,by simpa[ByteArray.size]using a⟩]
 have e:(⟨s.toArray⟩:ByteArray)[((i:Int)).toNat]'(by simpa[ByteArray.size]using a)=b:=by
  show s.toArray[i]'(by simpa using a)=b;rw[List.getElem_toArray];exact(Lf.1 h).2
 rw[e]
theorem AjS (n c k:Nat)(hk:k<=9)(hn:n<128 ^ k)(hc:c<128):bits .or .u64 (n:Int) (((c*128 ^ k % 18446744073709551616:Nat)):Int)=(((n+c*128 ^ k) % 18446744073709551616:Nat):Int):=by
 have d:(128:Nat) ^ k=2 ^ (7*k):=by rw[show(128:Nat)=2 ^ 7 from rfl, <-Nat.pow_mul]
 have h:(18446744073709551616:Nat)=2 ^ (64-7*k)*2 ^ (7*k):=by rw[<-Nat.pow_add,show 64-7*k+7*k=64 by omega]
 obtain⟨q,a⟩:∃q,c*128 ^ k % 18446744073709551616=q*2 ^ (7*k)/\q<2 ^ (64-7*k):=by
  refine⟨c % 2 ^ (64-7*k),?_,Nat.mod_lt _ (Nat.pow_pos (by decide))⟩;rw[d,h,Nat.mul_mod_mul_right]
 obtain⟨a,g⟩:=a
 have m:q*2 ^ (7*k)+n<18446744073709551616:=by
  have l:(q+1)*2 ^ (7*k)<=2 ^ (64-7*k)*2 ^ (7*k):=Nat.mul_le_mul_right _ g;rw[<-h,Nat.add_mul,Nat.one_mul]at l;rw[d]at hn;omega
 have e:n<18446744073709551616:=by omega
 have o:(n+c*128 ^ k) % 18446744073709551616=n+q*2 ^ (7*k):=by
  rw[Nat.add_mod,a,LE e,LE (by omega)]
 rw[o,a];show IntKind.u64.wrap ((BitVec.ofInt 64 (n:Int) |||BitVec.ofInt 64 ((q*2 ^ (7*k):Nat):Int)).toNat:Int)=_
 have j:(BitVec.ofInt 64 (n:Int) |||BitVec.ofInt 64 ((q*2 ^ (7*k):Nat):Int)).toNat=n+q*2 ^ (7*k):=by
  rw[BitVec.toNat_or,BitVec.ofInt_natCast,BitVec.ofInt_natCast,BitVec.toNat_ofNat,BitVec.toNat_ofNat,LE (by omega),LE (by omega),Nat.or_comm];have:=Nat.shiftLeft_add_eq_or_of_lt (i:=7*k) (b:=n) (by rw[<-d];exact hn) q;rw[Nat.shiftLeft_eq]at this;rw[<-this];omega
 rw[j,IntKind.wrap_u64];omega
theorem Ahl (b:UInt8):bits .and .u8 (b.toNat:Int) 127=((b.toNat % 128:Nat):Int):=by
 have h:∀m:Nat,m<256->bits .and .u8 (m:Int) 127=((m % 128:Nat):Int):=by decide+kernel
 exact h _ b.toNat_lt
def Bigs (t:List UInt8)(k:Nat):Prop:=k<=t.length/\∀i b,i<k->t[i]? =some b->128<=b.toNat
theorem Bigs.zero (t:List UInt8):Bigs t 0:=⟨Nat.zero_le _,λ_ _ h=>absurd h (Nat.not_lt_zero _)⟩
theorem Bigs.succ{t:List UInt8}{k:Nat}{b:UInt8}(h:Bigs t k)(hb:t[k]? =some b)(hl:128<=b.toNat):Bigs t (k+1):=
 ⟨(Lf.1 hb).1,λi c hi hc=>by
  rcases Nat.lt_succ_iff_lt_or_eq.1 hi with h1|rfl
  ·exact h.2 i c h1 hc
  ·rw[hb]at hc;injection hc with hc;subst hc;exact hl⟩
theorem Ub:∀{k f:Nat} {t:List UInt8},Bigs t k->XV (k+f) t=(XV f (t.drop k)).map (· +k)
 |0,f,t,_=>by simp
 |k+1,f,[],h=>by have:=h.1;simp at this
 |k+1,f,c::t,h=>by
  have hc:128<=c.toNat:=h.2 0 c (by omega) rfl
  have ht:Bigs t k:=⟨by have:=h.1;simp at this;exact this,λi b hi hb=>h.2 (i+1) b (by omega) (by simpa using hb)⟩
  rw[show k+1+f=(k+f)+1 by omega,XV,if_neg (by omega),Ub ht,Nk,Option.map_map]
  congr 1
theorem Alk{t:List UInt8}(h:Bigs t 10):QL t=(3,0,0):=by
 have:=Ub (f:=0) h;unfold QL;rw[show(10:Nat)=10+0 from rfl,this];have:=h.1;simp only[XV,Option.map_none];rw[if_neg (by omega)]
theorem AhL{t:List UInt8}{k:Nat}(h:Bigs t k)(hk:t.length=k)(h10:k<10):QL t=(2,0,0):=by
 obtain⟨f,a⟩:∃f,10=k+(f+1):=⟨9-k,by omega⟩;have:=Ub (f:=f+1) h;unfold QL;rw[a,this,List.drop_of_length_le (by omega)];simp only[XV,Option.map_none];rw[if_pos (by omega)]
theorem ZE{α:Type}{t:List α}{k:Nat}{b:α}(hb:t[k]? =some b):t.take (k+1)=t.take k++[b]:=by
 rw[L5,hb];rfl
theorem All{t:List UInt8}{k:Nat}{b:UInt8}(h:Bigs t k)(hb:t[k]? =some b)(hl:b.toNat<128)(h10:k<10):
 QL t=if (b=0/\0<k)\/(k=9/\1<b.toNat)then(3,0,0)else(0,Zx (t.take (k+1)) % 18446744073709551616,k+1):=by
 obtain⟨f,n⟩:∃f,10=k+(f+1):=⟨9-k,by omega⟩;have o:=(Lf.1 hb).1;have j:=Ub (f:=f+1) h;have m:t.drop k=b::t.drop (k+1):=by rw[<-Ns o,(Lf.1 hb).2]
 rw[m,XV,if_pos hl, <-n]at j;have l:XV 10 t=some (k+1):=by rw[j];simp[N6]
 obtain⟨p,_,_,_⟩:=XW l;have d:(t.take (k+1)).length=k+1:=by simp;omega
 have i:=AhW p (by omega) (b:=b) (by rw[ZE hb];simp);rw[d]at i;unfold QL;rw[l];simp only;by_cases g:(b=0/\0<k)\/(k=9/\1<b.toNat)
 ·rw[if_pos g,if_neg (λe=>(i.1 e) (by rcases g with⟨a,c⟩|⟨a,c⟩;exact .inl ⟨a,by omega⟩;exact .inr ⟨by omega,c⟩))]
 ·rw[if_neg g,if_pos (i.2 (λe=>g (by rcases e with⟨a,c⟩|⟨a,c⟩;exact .inl ⟨a,by omega⟩;exact .inr ⟨by omega,c⟩)))]
theorem AgT{t:List UInt8}{k n:Nat}{b:UInt8}(hk:k<=9)(hb:t[k]? =some b)(hn:n=Zx (t.take k) % 18446744073709551616):
 bits .or .u64 (n:Int) (IntKind.u64.wrap ((b.toNat:Int) % 128*2 ^ (7*k)))=((Zx (t.take (k+1)) % 18446744073709551616:Nat):Int):=by
 have a:=E5 (t.take k);have g:=(Lf.1 hb).1;rw[LH,NE (by omega)]at a;have e:128 ^ k<=128 ^ 9:=Nat.pow_le_pow_right (by decide) hk;rw[show(128:Nat) ^ 9=9223372036854775808 from by decide]at e;rw[LE (by omega)]at hn;subst hn
 have c:(2:Int) ^ (7*k)=((128 ^ k:Nat):Int):=by
  rw[show(128:Nat) ^ k=2 ^ (7*k) by rw[show(128:Nat)=2 ^ 7 from rfl, <-Nat.pow_mul]];simp
 have d:IntKind.u64.wrap ((b.toNat:Int) % 128*2 ^ (7*k))=((b.toNat % 128*128 ^ k % 18446744073709551616:Nat):Int):=by
  rw[c,IntKind.wrap_u64,Int.natCast_emod,Int.natCast_mul,Int.natCast_emod];rfl
 rw[d,AjS _ _ k hk a (Nat.mod_lt _ (by decide)),ZE hb,Uc,LH,NE (by omega)]
theorem Adu{a b c d e f:Int}(h1:a=b)(h2:c=d)(h3:e=f):Ending.returned (.tuple #[.int .u64 a,.int .i64 c,.int .i64 e])=.returned (.tuple #[.int .u64 b,.int .i64 d,.int .i64 f]):=by rw[h1,h2,h3]
theorem UD (s:List UInt8)(at_:Nat)(ha:at_<=s.length)(hs:s.length<=1000000)(w:World):
 Calls Tryz.prog 146 #[.string ⟨s.toArray⟩,.int .i64 (at_:Int)] w λe w'=>e=.returned (.tuple #[.int .u64 ((QL (s.drop at_)).2.1:Int),.int .i64 ((at_+(QL (s.drop at_)).2.2:Nat):Int),.int .i64 (QL (s.drop at_)).1])/\w=w':=by
 have aq:(⟨s.toArray⟩:ByteArray).size=s.length:=by simp[ByteArray.size]
 have al:¬((s.length:Int)<(at_:Int)):=by omega
 have am:(at_:Int)<=1000000:=by omega
 obtain⟨g,hg⟩:∃g,g=QL (s.drop at_):=⟨_,rfl⟩;rw[<-hg];have d:=Lv hg;clear hg;have Hs:=Lv hs;have Ha:=Lv ha;clear hs ha;go_enter Tryz.func146,Tryz.ntmps146
 go_wp2_with fail
 go_step3
 go_wp2_with fail
 go_step3
 go_wp2_with fail
 go_loopw [7,8,9] (λa b c wr=>∃k n:Nat,a=.int .u64 (n:Int)/\Hid (n=Zx ((s.drop at_).take k) % 18446744073709551616)/\b=.int .i64 (k:Int)/\(k:Int)<=10/\Hid (Bigs (s.drop at_) k)/\wr=w) (λ_ b _ _=>(10-intOf b).toNat)
 case atStart=>exact⟨0,0,by simp,Lv (by simp[Zx]),rfl,by omega,Lv (Bigs.zero _),rfl⟩
 case round=>
  obtain⟨k,n,rfl,Hn,rfl,hk,q,rfl⟩:=hrel;have p:(s.drop at_).length=s.length-at_:=by simp
  by_cases ab:k=10
  ·subst ab;have i:=d.out.trans (Alk q.out);clear d q;subst i;go_wp2_with fail
   try rw[Exit.noGoto_ret]
   go_ret3
   exact⟨rfl,rfl⟩
  obtain⟨m,hm⟩:∃m:Nat,m=at_+k:=⟨_,rfl⟩;have af:(at_:Int)+(k:Int)=(m:Int):=by omega
  have ag:¬(k:Int)=10:=by omega
  by_cases z:m=s.length
  ·have ai:(at_:Int)+(k:Int)=(s.length:Int):=by omega
   have i:=d.out.trans (AhL q.out (by have:=Ha.out;omega) (by omega));clear d q hm z af p;subst i;go_wp2_with fail
   try rw[Exit.noGoto_ret]
   go_ret3
   exact⟨rfl,rfl⟩
  have aa:m<s.length:=by have:=q.out.1;have:=Ha.out;omega
  obtain⟨b,hb⟩:∃b,s[m]? =some b:=⟨_,Ld aa⟩;have ao:=Adh hb;have o:Hid ((s.drop at_)[k]? =some b):=Lv (by rw[Ni, <-hm];exact hb);have aj:¬(m:Int)=(s.length:Int):=by omega
  have ah:=Ahl b;have ap:(m:Int)<=1000010:=by omega
  have Hm:=Lv hm;clear z p hb hm;by_cases u:b.toNat<128;rotate_left
  ·have x:¬(b.toNat:Int)<128:=by omega
   go_wp2_with fail
   refine⟨⟨k+1,Zx ((s.drop at_).take (k+1)) % 18446744073709551616,?_,Lv rfl,by simp,by omega,Lv (q.out.succ o.out (by omega)),trivial⟩,?_⟩
   ·rw[AgT (by omega) o.out Hn.out]
   ·simp only[intOf];omega
  have x:(b.toNat:Int)<128:=by omega
  have l:=Lv (All q.out o.out u (by omega));have hj:(at_:Int)+((k:Int)+1)=(m:Int)+1:=by omega
  have t:=Lv (AgT (by omega) o.out Hn.out);have b0:b=0<->b.toNat=0:=⟨λe=>by rw[e];rfl,λe=>UInt8.toNat_inj.1 (by simpa using e)⟩;have B0:=Lv b0;have ak:=Lv u;clear u b0;by_cases ad:0<k;rotate_left
  ·have i:=d.out.trans (l.out.trans (if_neg (by rintro(⟨_,h⟩|⟨h,_⟩)<;>omega)))
   have ae:¬1<(k:Int)+1:=by omega
   have v:¬(k:Int)+1=10:=by omega
   obtain⟨B,hB⟩:∃B,((b.toNat:Int)==0)=B:=⟨_,rfl⟩;clear d l;subst i;go_wp2_with fail
   all_goals
    try rw[Exit.noGoto_ret]
    go_ret3
    exact⟨Adu t.out (by first|omega| (simp;omega)|simp) rfl,rfl⟩
  by_cases hz:(b.toNat:Int)=0
  · ·have i:=d.out.trans (l.out.trans (if_pos (.inl ⟨B0.out.2 (by omega),ad⟩)))
     have ae:1<(k:Int)+1:=by omega
     clear d l
     subst i
     go_wp2_with fail
     try rw[Exit.noGoto_ret]
     go_ret3
     exact⟨rfl,rfl⟩
  ·by_cases j:k=9
   ·by_cases an:1<(b.toNat:Int)
    ·have i:=d.out.trans (l.out.trans (if_pos (.inr ⟨j,by omega⟩)));have v:(k:Int)+1=10:=by omega
     have ac:(at_:Int)+10=(m:Int)+1:=by omega
     have y:=Lv j;clear d l hj j;subst i;go_wp2_with fail
     try rw[Exit.noGoto_ret]
     go_ret3
     exact⟨rfl,rfl⟩
    ·have i:=d.out.trans (l.out.trans (if_neg (by
       rintro(⟨h,_⟩|⟨_,h⟩);·have:=B0.out.1 h;omega
       ·omega)))
     have v:(k:Int)+1=10:=by omega
     have ac:(at_:Int)+10=(m:Int)+1:=by omega
     have y:=Lv j;clear d l hj j;subst i;go_wp2_with fail
     try rw[Exit.noGoto_ret]
     go_ret3
     exact⟨Adu t.out (by first|omega| (simp;omega)|simp) rfl,rfl⟩
   ·have i:=d.out.trans (l.out.trans (if_neg (by
      rintro(⟨h,_⟩|⟨h,_⟩);·have:=B0.out.1 h;omega
      ·omega)))
    have v:¬(k:Int)+1=10:=by omega
    clear d l;subst i;go_wp2_with fail
    try rw[Exit.noGoto_ret]
    go_ret3
    exact⟨Adu t.out (by first|omega| (simp;omega)|simp) rfl,rfl⟩
attribute [local go_sem] Oper.semAt_some
def Al7 (w:World)(b:Nat):Nat:=match w.cell? ⟨b,0,none⟩with|some (.int _ n)=>n.toNat|_=>0
theorem AlE (n:Nat):bits .or .u8 (((n % 256:Nat):Int)) 128=((UInt8.ofNat (128+n % 128)).toNat:Int):=by
 have h:∀m:Nat,m<256->bits .or .u8 (m:Int) 128=((128+m % 128:Nat):Int):=by decide+kernel
 rw[h (n % 256) (by omega)];have:(UInt8.ofNat (128+n % 128)).toNat=128+n % 128:=by simp;omega
 rw[this];omega
theorem Amz (n:Nat):((n % 256:Nat):Int)=((UInt8.ofNat n).toNat:Int):=by simp
theorem Ada (bs:Nat)(n:Nat)(hn:n<18446744073709551616)(w:World)(hrow:Row w bs 113 #[.int .u64 n]):
 AiF Tryz.prog 247 #[.pointer (some ⟨bs,0,none⟩)] (λx:UInt8=>#[.int .u8 (x.toNat:Int)]) (· =bs) (λA B=>B.heap[bs]? =A.heap[bs]? /\A.heap.size<=B.heap.size) (λxs=>xs=QC n) (λ_=>True) 10 w:=by
 intro l J Jx W _ ai hJ ao hY h0;refine callsIn_of_wp Tryz.func247 rfl trivial ?_ rfl;simp only[Tryz.ntmps247,Ly,Le,Ll,Nat.reduceAdd,Nat.reduceSub,Ln,Lp,Lz,LD,Lu,Lk];gi_wp2;have ah:Row W bs 113 #[.int .u64 n]:=(ai.block bs hrow.lt (by simp)).trans hrow
 have u:n<128 ^ 10:=by
  have e:(128:Nat) ^ 10=1180591620717411303424:=by decide
  rw[e];omega
 have Hn:=Lv hn;have ae:=Lv u;clear hrow ai hn u;gi_loopw [3,4] (λ_ _ wr=>∃(f m:Nat) (b:List UInt8),b++Xi (f+1) m=QC n/\m<128 ^ (f+1)/\m<18446744073709551616/\b.length+(f+1)=10/\Row wr bs 113 #[.int .u64 m]/\J b wr) (λ_ _ wr=>Al7 wr bs)
 case atStart=>exact⟨9,n,[],rfl,ae.out,Hn.out,rfl,ah,h0⟩
 case round=>
  clear ah h0;obtain⟨f,m,b,y,hm,t,s,hr,hj⟩:=hrel;have o:=Lv y;have Hm:=Lv hm;have k:=Lv s;have ad:=Lv t;clear y hm s t;have hc:=hr.cellv (i:=0) (v:=.int .u64 (m:Int)) rfl;have hf:=hr.free 0;have d:b.length<10:=by have:=k.out;omega
  by_cases p:m<128
  ·obtain⟨c,a⟩:∃c:UInt8,c=UInt8.ofNat m:=⟨_,rfl⟩;have hx:((c.toNat:Nat):Int)=(m:Int):=by rw[a, <-Amz];omega
   obtain⟨fn,aj,g,af,hy,hR⟩:=hY _ c _ hj d;rw[hx]at hy;have HR:=Lv hR;have z:=Lv a;have am:((m:Nat):Int)<128:=by omega
   clear hR a hx p;gi_wp2;refine⟨rfl,HR.out.mono ?_⟩;rintro e W' (⟨rfl,h,ab,an⟩|⟨rfl,aa⟩)
   ·gi_wp2;go_end0
    refine⟨⟨_,rfl⟩,.inl ⟨_,?_,h⟩⟩;rw[<-o.out,Kn f m (by omega),z.out]
   ·gi_wp2;go_end0
    exact⟨⟨_,rfl⟩,.inr ⟨_,trivial,aa⟩⟩
  ·obtain⟨c,a⟩:∃c:UInt8,c=UInt8.ofNat (128+m % 128):=⟨_,rfl⟩
   have hx:((c.toNat:Nat):Int)=bits .or .u8 ((m:Int) % 256) 128:=by
    have e:(m:Int) % 256=((m % 256:Nat):Int):=by omega
    rw[a,e,AlE]
   obtain⟨fn,aj,g,af,hy,hR⟩:=hY _ c _ hj d;rw[hx]at hy;have HR:=Lv hR;have z:=Lv a;have am:128<=((m:Nat):Int):=by omega
   clear hR a hx p;gi_wp2;have q:=XU f m (by omega)
   have al:0<f:=by
    rcases Nj f with rfl|h0
    ·have:=Hm.out;simp at this;omega
    ·exact h0
   obtain⟨f,rfl⟩:∃f',f=f'+1:=⟨f-1,by omega⟩;have ac:=Lv q;clear q al;refine⟨rfl,HR.out.mono ?_⟩;rintro e W' (⟨rfl,h,ab,an⟩|⟨rfl,aa⟩)
   ·have j:Row W' bs 113 #[.int .u64 m]:=ab.trans hr;have ap:=j.cellv (i:=0) (v:=.int .u64 (m:Int)) rfl;have aq:=j.free 0;have ak:=Lv h;clear h ab hj hy hf hc;gi_wp2;have ag:(m:Int) / 128=((m / 128:Nat):Int):=by omega
    go_roundw
    case rel=>
     refine⟨f,m / 128,b++[c],?_,?_,?_,?_,?_,?_⟩
     ·rw[<-o.out,ac.out,z.out];simp
     ·have:=Hm.out;rw[Nr]at this;omega
     ·have:=ad.out;omega
     ·have:=k.out;simp;omega
     ·rw[<-ag];exact j.set 0 _
     ·exact hJ _ _ _ (some bs) ak.out (grownBy_setCell' _ _ _) (λr e=>by cases e;exact .inl rfl)
    case measure=>
     have h1:=(j.set 0 (.int .u64 ((m:Int) / 128))).cell 0;have h2:=hr.cell 0;unfold Al7;rw[h1,h2];simp;omega
   ·clear hj hy hc hf hr;gi_wp2;refine bodyPost_ret (results_none rfl _ _ _) rfl ?_;exact⟨⟨_,rfl⟩,.inr ⟨_,trivial,aa⟩⟩
end Go.Proofs.YtgnmkiafeplbpaaGreatDoor
namespace Go.Proofs.YtgnmkiafeplbpaaGreatDoor
open Go.RowKit
theorem Ade:(Tryz.prog.info? 5).map (λi=>(i.zero,i.size,i.bytes))=some (some (.int .u8 0),1,1):=by kernel_rfl
end Go.Proofs.YtgnmkiafeplbpaaGreatDoor
namespace Go.Proofs.YtgnmkiafeplbpaaGreatDoor
open Go.RowKit Go.Deep
attribute [local go_sem] Oper.semAt_some
theorem AfB (n:Nat)(w:World):
 Calls Tryz.prog 213 #[.int .u64 n] w λe w'=>e=.returned (.func (.func 247) #[] #[.pointer (some ⟨w.heap.size,0,none⟩)])/\w.alloc (.cells #[.int .u64 n] 113)=w':=by
 go_enter Tryz.func213,Tryz.ntmps213
 go_wp2
 go_ret
 exact⟨rfl,rfl⟩
theorem AaS (n:Nat)(hn:n<18446744073709551616)(w:World):
 Calls Tryz.prog 163 #[.int .u64 n] w λe w'=>e=.returned (.string ⟨(QC n).toArray⟩)/\Below w.heap.size w w':=by
 have Hn:=Lv hn;clear hn;obtain⟨i0,ae,ag,ah,ai⟩:=info_parts Ade;refine(callsIn_wide (n:=0)).1 ?_;refine callsIn_of_wp_marks Tryz.func163 rfl trivial ?_;simp only[Tryz.ntmps163,Ly,Le,Ll,Nat.reduceAdd,Nat.reduceSub,Ln,Lp,Lz,LD,Lu,Lk];gi_wp2_with fail
 have rg:=Row.new w 111 #[.slice none 0 0];have b1:=(Below.refl w.heap.size w).alloc (Nat.le_refl _) (.cells #[.slice none 0 0] 111);have l1:=rg.lt;generalize w.alloc (.cells #[.slice none 0 0] 111)=w1 at rg b1 l1|-;refine⟨trivial,rfl,(callsIn_wide.2 (AfB n w1)).mono ?_⟩;rintro e w2 ⟨rfl,ac⟩;have rb:=Row.new w1 113 #[.int .u64 n];have t:=rg.alloc (.cells #[.int .u64 n] 113);have b2:=b1.alloc b1.size (.cells #[.int .u64 n] 113);rw[ac]at rb t b2;obtain⟨b,aa⟩:∃b,b=w1.heap.size:=⟨_,rfl⟩;rw[<-aa]at rb l1|-;have lb:=rb.lt;obtain⟨G,hG⟩:∃G,G=w.heap.size:=⟨_,rfl⟩;have gG:w.heap.size<=G:=by omega
 rw[<-hG]at t l1|-;clear aa ac rg b1;have HG:=Lv hG;clear hG;have z:=Lv (Ada b n Hn.out w2 rb);gi_wp2
 refine Aj3 (gf:=247) (lb:=#[.pointer (some ⟨b,0,none⟩)]) rfl (enters_of Tryz.func247 (by kernel_rfl) rfl) z.out (λr h=>by subst h;omega)
  (λh k=>⟨k.1.trans h.1,Lj h.2 k.2⟩) (λW l o o' hl ho hc=>⟨by rw[World.putObj_heap_other (by omega)],by simp⟩) (World.grownBy.refl _ _) (λ_=>rfl)
  (λa W=>∃v,Row W G 111 #[v]/\W.ownsRow w.heap.size 5 1 v a.length (u8s a)/\Below w.heap.size w W/\v.ownBlock≠some b/\b<W.heap.size) (λ_ _ _=>False) ?hI ?hIx ⟨_,t,World.ownsRow_nil _ _ _ _,b2,by simp[Value.ownBlock],lb⟩
  (λx a' W=>a'={ tmps:=#[.int .u64 n,undef,.string ⟨#[]⟩,.pointer (some ⟨G,0,none⟩),.int .u8 (x.toNat:Int),.int .u64 n,.func (.func 247) #[] #[.pointer (some ⟨b,0,none⟩)],.int .u8 (x.toNat:Int),undef,undef,undef,undef,undef,undef],defers:=[] }) ?hAx ?assign ?body ?done ?stop
 case hI=>
  rintro a A B row ⟨v,p,s,j,h4,h5⟩ g hr
  have q:∀r,row=some r->r≠G/\v.ownBlock≠some r:=λr e=>by
   rcases hr r e with h|⟨h,o,ho,hc⟩
   ·have:r=b:=h;subst this;exact⟨by omega,h4⟩
   ·exact⟨by omega,JC s ho hc⟩
  refine⟨v,p.grown g (λe=>(q G e).1 rfl),s.kept g ?_,j.grown g j.size (λk e=>?_),h4,Lg h5 g.size⟩
  ·cases row with
   |none=>cases v.ownBlock<;>simp
   |some r=>exact .inr (q r rfl).2
  ·rcases hr k e with h|⟨h,_⟩
   ·have:k=b:=h;omega
   ·have:=b2.size;omega
 case hIx=>exact λ_ _ _ _ _ h _ _=>h
 case hAx=>exact λx a' _ _ _ _ h _ _=>h
 case assign=>
  rintro l a x W K hI hK;have HK:=Lv hK;clear hK;gi_wp2;exact HK.out _ _ (KeepsFrom.refl _ _) ⟨rfl,Nat.le_refl _⟩ hI rfl
 case body=>
  rintro l a x a' W hl _ ⟨v,p,s,j,h4,h5⟩ rfl af;have aj:a.length<10:=af;have hc:=p.cellv (i:=0) (v:=v) rfl;have hf:=p.free 0;have ha:=s.alloc (.cells #[.int .u8 (x.toNat:Int)] 5);have HA:=Lv ha;clear ha;gi_wp2_with (gi_at_builtin;refine wpListIn_append_own_at _ rfl (.tmp 8) (.tmp 10) 111 rfl w.heap.size 5 i0 (.int .u8 0) 1 1 Tryz.underlying111 ae ag ah ai rfl (by decide) v a.length (u8s a) rfl HA.out ⟨W.heap.size,0,none⟩ 1 1 (u8s [x]) rfl rfl (XP _ _ _) (AeX _) (by unfold maxLen;omega) (by omega) (by have:=j.size;simp;omega) ?_);intro v' W3 d g _ ab;have r3:=(p.alloc (.cells #[.int .u8 (x.toNat:Int)] 5)).grown g (QK HA.out (p.alloc _) (by decide));have b3:=QJ (j.alloc j.size _) HA.out g (by have:=j.size;simp;omega) (Nat.le_refl _);have k3:KeepsFrom w2.heap.size W W3:=(KeepsFrom.alloc _ W (.cells #[.int .u8 (x.toNat:Int)] 5)).trans (KeepsFrom.of_own HA.out g);have e3:W3.heap[b]? =W.heap[b]? :=(g.block b (by simp;omega) (λe=>h4 e.symm)).trans (Below.heap_alloc _ _ _ h5);have l3:W.heap.size<W3.heap.size:=by have:=g.size;simp at this;omega
  have n3:v'.ownBlock≠some b:=by
   rcases ab with h|h
   ·rw[h];exact h4
   ·rw[h];intro e;injection e;omega
  obtain⟨A',m',c',rfl⟩:∃A m c,v'=.slice A m c:=Ji d;have ak:=r3.cellv (i:=0) (v:=v) rfl;have al:=r3.free 0;have nG:=QK d r3 (by decide);have y:=Lv d;clear d g ab hc hf;gi_wp2;have u:=Qu W3 G 0 (.slice A' m' c');refine⟨k3.trans (KeepsFrom.of_only r3 u),⟨(u.block b (by omega)).trans e3,by have:=u.size;omega⟩,_,r3.set 0 _,?_,Ql b3 u gG,n3,by have:=u.size;omega⟩;have:=Za y.out u nG;rw[<-UN]at this;simpa using this
 case stop=>exact λD c a W _ _ h _=>h.elim
 case done=>
  rintro D ys W hD rfl ⟨v,p,s,j,_,_⟩ hK;have ad:=XD (P:=Tryz.prog) 111 9 5 Tryz.underlying111 Tryz.underlying5 Tryz.underlying9 _ s;have hc:=p.cellv (i:=0) (v:=v) rfl;have HK:=Lv hK;clear hK s;gi_wp2;refine⟨by simp,.inl ⟨_,_,rfl,run_takeDeferred HK.out,?_⟩⟩;exact⟨_,results_tmp rfl _ _ _,rfl,j.grown (grownBy_putObj' _ _ _) j.size (λk e=>by cases e;have:=b2.size;omega)⟩
end Go.Proofs.YtgnmkiafeplbpaaGreatDoor
namespace Go.Proofs.YtgnmkiafeplbpaaGreatDoor
open Go.RowKit Go.Deep
theorem AlU (u:Int):bits .xor .u64 IntKind.u64.max (IntKind.u64.wrap (u*2))=18446744073709551615-IntKind.u64.wrap (u*2):=by
 obtain⟨m,d,c⟩:∃m:Nat,IntKind.u64.wrap (u*2)=(m:Int)/\m<18446744073709551616:=by
  rw[IntKind.wrap_u64];exact⟨((u*2) % 18446744073709551616).toNat,by omega,by omega⟩
 rw[d];show IntKind.u64.wrap ((BitVec.ofInt 64 IntKind.u64.max ^^^ BitVec.ofInt 64 (m:Int)).toNat:Int)=_;have a:BitVec.ofInt 64 IntKind.u64.max=BitVec.allOnes 64:=by decide+kernel
 have b:(BitVec.ofInt 64 (m:Int)).toNat=m:=by rw[BitVec.ofInt_natCast,BitVec.toNat_ofNat];exact LE (by omega)
 rw[a,BitVec.allOnes_xor,BitVec.toNat_not,b,IntKind.wrap_u64];omega
theorem AkH (u:Int)(w:World):Calls Tryz.prog 248 #[.int .u64 u] w λe w'=>e=.returned (.int .u64 (IntKind.u64.wrap (u*2)))/\w=w':=by
 go_enter Tryz.func248,Tryz.ntmps248
 go_wp2
 go_ret
 exact⟨rfl,rfl⟩
theorem AkI (u:Int)(w:World):Calls Tryz.prog 249 #[.int .u64 u] w λe w'=>e=.returned (.int .u64 (bits .xor .u64 IntKind.u64.max (IntKind.u64.wrap (u*2))))/\w=w':=by
 have a:¬IntKind.u64.signed=true:=by decide
 go_enter Tryz.func249,Tryz.ntmps249
 go_wp2
 go_ret
 exact⟨rfl,rfl⟩
theorem Al3 (n:Int)(hn:InI n)(h:0<=n):IntKind.u64.wrap (IntKind.u64.wrap n*2)=(Es n:Int):=by
 simp only[IntKind.wrap_u64];unfold Es;rw[if_pos h];have:=hn.2;omega
theorem Al2 (n:Int)(hn:InI n)(h:¬0<=n):bits .xor .u64 IntKind.u64.max (IntKind.u64.wrap (IntKind.u64.wrap n*2))=(Es n:Int):=by
 rw[AlU];simp only[IntKind.wrap_u64];unfold Es;rw[if_neg h];have:=hn.1;omega
theorem Ag0{a b:Int}(h:a=b):Ending.returned (.int .u64 a)=.returned (.int .u64 b):=by rw[h]
theorem Al1 (n:Int)(hn:InI n)(w:World):
 Calls Tryz.prog 214 #[.int .i64 n] w λe w'=>e=.returned (.int .u64 (Es n))/\Below w.heap.size w w':=by
 have a:=Lv hn;clear hn;go_enter Tryz.func214,Tryz.ntmps214
 go_wp2_with (refine Qs _ rfl ?_)
 refine Stop.to ?_;refine Qi rfl 309 rfl _ _ rfl rfl ?_;intro g u d l h;go_wp2_with (refine Qk _ _ _ rfl ?_)
 refine Stop.to ?_;refine Qh rfl 309 _ _ rfl g #[.func (.func 248) #[] #[],.func (.func 249) #[] #[]] rfl rfl 309 _ l (by kernel_rfl) rfl (by kernel_rfl) ?_;intro o m k;have j:=Ql ((Below.refl w.heap.size w).trans (h.mono d)) k d;have s:=m.cellv (i:=0) (v:=.func (.func 248) #[] #[]) rfl;have t:=m.cellv (i:=1) (v:=.func (.func 249) #[] #[]) rfl;clear k l h d;by_cases b:0<=n
 ·have p:IntKind.u64.wrap n / 9223372036854775808=0:=by rw[IntKind.wrap_u64];have:=a.out.1;have:=a.out.2;omega
  have c:=Lv b;clear b;go_wp2_with fail
  refine(AkH _ o).mono ?_;rintro e q ⟨rfl,rfl⟩;go_wp2_with fail
  go_ret
  exact⟨Ag0 (Al3 n a.out c.out),j⟩
 ·have p:IntKind.u64.wrap n / 9223372036854775808=1:=by rw[IntKind.wrap_u64];have:=a.out.1;have:=a.out.2;omega
  have c:=Lv b;clear b;go_wp2_with fail
  refine(AkI _ o).mono ?_;rintro e q ⟨rfl,rfl⟩;go_wp2_with fail
  go_ret
  exact⟨Ag0 (Al2 n a.out (by have:=c.out;omega)),j⟩
theorem Agr (n:Int)(hn:InI n)(w:World):
 Calls Tryz.prog 164 #[.int .i64 n] w λe w'=>e=.returned (.string ⟨(zz n).toArray⟩)/\Below w.heap.size w w':=by
 have a:=Lv hn;clear hn;go_enter Tryz.func164,Tryz.ntmps164
 go_wp2_with fail
 refine(Al1 n a.out w).mono ?_;rintro e d ⟨rfl,b⟩;go_wp2_with fail
 refine(AaS (Es n) (Ahd a.out) d).mono ?_;rintro e g ⟨rfl,c⟩;go_wp2_with fail
 go_ret
 exact⟨rfl,b.trans (c.mono b.size)⟩
def kOf (t:List UInt8):Nat:=(XV 10 t).getD 0
theorem Ajq (t:List UInt8):QL t=if kOf t=0 then(if t.length<10 then(2,0,0)else(3,0,0))else(if QC (Zx (t.take (kOf t)) % 18446744073709551616)=t.take (kOf t)then(0,Zx (t.take (kOf t)) % 18446744073709551616,kOf t)else(3,0,0)):=by
 unfold QL kOf;cases hk:XV 10 t with
 |none=>simp
 |some k=>
  obtain⟨_,_,_,h⟩:=XW hk;simp only[Nx];rw[if_neg (by omega:¬k=0)]
theorem Aml (t:List UInt8):kOf t<=t.length/\kOf t<=10:=by
 unfold kOf;cases hk:XV 10 t with
 |none=>simp
 |some k=>obtain⟨_,a,b,_⟩:=XW hk;exact⟨b,a⟩
theorem KV (s:List UInt8)(i j:Nat):(⟨s.toArray⟩:ByteArray).extract i j=⟨((s.drop i).take (j-i)).toArray⟩:=by
 apply ByteArray.ext;rw[ByteArray.data_extract];simp[List.extract_toArray,List.extract_eq_take_drop]
structure Rs where
 pl:Nat
 er:Int
def RdO (W:World)(g:Nat)(s:List UInt8)(r:Rs):Prop:=Row W g 200 #[.string ⟨s.toArray⟩,.int .i64 (r.pl:Int),.int .i64 r.er]
theorem RdO.go{W W':World}{g:Nat}{s:List UInt8}{r:Rs}(h:RdO W g s r)(b:Below W.heap.size W W'):RdO W' g s r:=Row.below h b (Row.lt h)
instance St.rdo{g:Nat}{s:List UInt8}{r:Rs}:St (λW=>RdO W g s r):=⟨λh b=>h.go b⟩
def Rs.move (r:Rs)(to:Nat)(e:Int):Rs:=if r.er=0 then(if e=0 then⟨to,0⟩else⟨r.pl,e⟩)else r
theorem Alv{r:Rs}(h:¬r.er=0)(to:Nat)(e:Int):r.move to e=r:=if_neg h
theorem AgI{r:Rs}(h:r.er=0)(to:Nat):r.move to 0=⟨to,0⟩:=by unfold Rs.move;rw[if_pos h,if_pos rfl]
theorem Aey{r:Rs}(h:r.er=0)(to:Nat){e:Int}(he:¬e=0):r.move to e=⟨r.pl,e⟩:=by unfold Rs.move;rw[if_pos h,if_neg he]
theorem Only.trans'{g:Nat}{a b c:World}(h:Only g a b)(k:Only g b c):Only g a c:=⟨k.os.trans h.os,k.tape.trans h.tape,k.output.trans h.output,k.size.trans h.size,λi hi=>(k.block i hi).trans (h.block i hi)⟩
theorem Only.refl' (g:Nat)(w:World):Only g w w:=⟨rfl,rfl,rfl,rfl,λ_ _=>rfl⟩
theorem Aex (g:Nat)(s:List UInt8)(r:Rs)(to:Nat)(er:Int)(w:World)(h:RdO w g s r):
 Calls Tryz.prog 207 #[.pointer (some ⟨g,0,none⟩),.int .i64 (to:Int),.int .i64 er] w λe w'=>e=.returned (.bool (decide ((r.move to er).er=0)))/\RdO w' g s (r.move to er)/\Only g w w':=by
 obtain⟨m,c⟩:=r;have d:=Row.cellv h (i:=1) (v:=.int .i64 (m:Int)) rfl;have j:=Row.cellv h (i:=2) (v:=.int .i64 c) rfl;have k:=Row.free h 1;have l:=Row.free h 2;by_cases a:c=0
 ·subst a;by_cases b:er=0
  ·subst b;go_enter Tryz.func207,Tryz.ntmps207
   go_wp2
   go_ret
   exact⟨by simp[Rs.move],by rw[AgI rfl];exact(Row.set (Row.set h 2 (.int .i64 0)) 1 (.int .i64 (to:Int))),(Qu _ _ _ _).trans' (Qu _ _ _ _)⟩
  ·go_enter Tryz.func207,Tryz.ntmps207
   go_wp2
   go_ret
   exact⟨by simp[Rs.move,b],by rw[Aey rfl _ b];exact(Row.set h 2 (.int .i64 er)),Qu _ _ _ _⟩
 ·rw[Alv a];go_enter Tryz.func207,Tryz.ntmps207
  go_wp2
  go_ret
  exact⟨by simp[a],h,Only.refl' _ _⟩
def Rs.step{α:Type}(r:Rs)(p:Int×Nat×α)(z:α):α×Rs:=(if (r.move p.2.1 p.1).er=0 then p.2.2 else z,r.move p.2.1 p.1)
theorem AcX (g:Nat)(s:List UInt8)(r:Rs)(x:Int)(to:Nat)(er:Int)(w:World)(h:RdO w g s r):
 Calls Tryz.prog 206 #[.func (.func 207) #[.pointer (some ⟨g,0,none⟩)] #[],.int .i64 x,.int .i64 (to:Int),.int .i64 er] w λe w'=>e=.returned (.int .i64 (r.step (er,to,x) 0).1)/\RdO w' g s (r.step (er,to,x) 0).2/\Only g w w':=by
 have d:=Lv (Aex g s r to er w h);clear h;go_enter Tryz.func206,Tryz.ntmps206
 go_wp2_with fail
 refine d.out.mono ?_;rintro e j ⟨rfl,b,c⟩;by_cases a:(r.move to er).er=0
 ·have i:(decide ((r.move to er).er=0))=true:=by simpa using a
  go_wp2_with fail
  go_ret
  exact⟨by simp[Rs.step,a],b,c⟩
 ·have i:(decide ((r.move to er).er=0))=false:=by simpa using a
  go_wp2_with fail
  go_ret
  exact⟨by simp[Rs.step,a],b,c⟩
theorem Em (g:Nat)(s:List UInt8)(r:Rs)(x:List UInt8)(to:Nat)(er:Int)(w:World)(h:RdO w g s r):
 Calls Tryz.prog 208 #[.func (.func 207) #[.pointer (some ⟨g,0,none⟩)] #[],.string ⟨x.toArray⟩,.int .i64 (to:Int),.int .i64 er] w λe w'=>e=.returned (.string ⟨(r.step (er,to,x) []).1.toArray⟩)/\RdO w' g s (r.step (er,to,x) []).2/\Only g w w':=by
 have d:=Lv (Aex g s r to er w h);clear h;go_enter Tryz.func208,Tryz.ntmps208
 go_wp2_with fail
 refine d.out.mono ?_;rintro e j ⟨rfl,b,c⟩;by_cases a:(r.move to er).er=0
 ·have i:(decide ((r.move to er).er=0))=true:=by simpa using a
  go_wp2_with fail
  go_ret
  exact⟨by simp[Rs.step,a],b,c⟩
 ·have i:(decide ((r.move to er).er=0))=false:=by simpa using a
  go_wp2_with fail
  go_ret
  exact⟨by simp[Rs.step,a],b,c⟩
theorem Yf (t:List UInt8):((QL t).1=0/\(QL t).2.1<18446744073709551616)\/((QL t).1≠0/\(QL t).2.1=0/\(QL t).2.2=0):=by
 unfold QL;split
 ·split<;>exact .inr ⟨by decide,rfl,rfl⟩
 ·split
  ·exact .inl ⟨rfl,Nat.mod_lt _ (by decide)⟩
  ·exact .inr ⟨by decide,rfl,rfl⟩
theorem Aef (t:List UInt8):(QL t).2.2<=t.length:=by
 have:=Ajq t;have h:=Aml t;rw[this];split
 ·split<;>simp
 ·split<;>simp<;>omega
def EV (n:Nat):Int:=if n % 2=0 then((n / 2:Nat):Int)else-((n / 2:Nat):Int)-1
theorem AmB{n:Nat}(h:n<18446744073709551616):InI (EV n):=by
 unfold EV InI;split<;>omega
theorem AlX{n:Int}(h:InI n):EV (Es n)=n:=by
 unfold EV Es;unfold InI at h;by_cases a:0<=n
 ·rw[if_pos a,if_pos (by omega)];omega
 ·rw[if_neg a,if_neg (by omega)];omega
theorem AkN (n:Nat)(h:n<18446744073709551616):bits .and .u64 (n:Int) 1=((n % 2:Nat):Int):=by
 show IntKind.u64.wrap ((BitVec.ofInt 64 (n:Int) &&& BitVec.ofInt 64 1).toNat:Int)=_
 have a:(BitVec.ofInt 64 (n:Int) &&& BitVec.ofInt 64 1).toNat=n % 2:=by
  rw[BitVec.toNat_and,BitVec.ofInt_natCast,BitVec.toNat_ofNat,LE (by omega),show(BitVec.ofInt 64 1).toNat=1 by decide+kernel,Nat.and_one_is_mod]
 rw[a,IntKind.wrap_u64];omega
theorem xor_zero (m:Nat)(h:m<9223372036854775808):bits .xor .i64 (m:Int) 0=(m:Int):=by
 show IntKind.i64.wrap ((BitVec.ofInt 64 (m:Int) ^^^ BitVec.ofInt 64 0).toNat:Int)=_
 have a:(BitVec.ofInt 64 (m:Int) ^^^ BitVec.ofInt 64 0).toNat=m:=by
  rw[show BitVec.ofInt 64 0=0#64 by decide+kernel,BitVec.xor_zero,BitVec.ofInt_natCast,BitVec.toNat_ofNat,LE (by omega)]
 rw[a,IntKind.wrap_i64];omega
theorem Akz (m:Nat)(h:m<9223372036854775808):bits .xor .i64 (m:Int) (-1)= -(m:Int)-1:=by
 show IntKind.i64.wrap ((BitVec.ofInt 64 (m:Int) ^^^ BitVec.ofInt 64 (-1)).toNat:Int)=_
 have a:(BitVec.ofInt 64 (m:Int) ^^^ BitVec.ofInt 64 (-1)).toNat=18446744073709551615-m:=by
  rw[show BitVec.ofInt 64 (-1)=BitVec.allOnes 64 by decide+kernel,BitVec.xor_allOnes,BitVec.toNat_not,BitVec.ofInt_natCast,BitVec.toNat_ofNat,LE (by omega)]
 rw[a,IntKind.wrap_i64];omega
theorem AgZ{a b:Int}(h:a=b):Ending.returned (.int .i64 a)=.returned (.int .i64 b):=by rw[h]
theorem AlW (n:Nat)(hn:n<18446744073709551616)(w:World):
 Calls Tryz.prog 246 #[.int .u64 (n:Int)] w λe w'=>e=.returned (.int .i64 (EV n))/\w=w':=by
 have h:=AkN n hn;have a:=Lv hn;clear hn;by_cases b:n % 2=0
 ·rw[b]at h;have c:=Lv b;clear b;go_enter Tryz.func246,Tryz.ntmps246
  go_wp2
  go_ret
  refine⟨AgZ ?_,rfl⟩;have g:=xor_zero (n / 2) (by have:=a.out;omega);have e:wrap64 ((n:Int) / 2)=((n / 2:Nat):Int):=by rw[IntWalk.wrap64_in _ (by have:=a.out;omega)];omega
  rw[e,g,EV,if_pos c.out]
 ·have d:n % 2=1:=by omega
  rw[d]at h;have c:=Lv d;clear b d;go_enter Tryz.func246,Tryz.ntmps246
  go_wp2
  go_ret
  refine⟨AgZ ?_,rfl⟩;have g:=Akz (n / 2) (by have:=a.out;omega);have e:wrap64 ((n:Int) / 2)=((n / 2:Nat):Int):=by rw[IntWalk.wrap64_in _ (by have:=a.out;omega)];omega
  rw[e,g,EV,if_neg (by have:=c.out;omega)]
theorem Agq (s:List UInt8)(at_:Nat)(ha:at_<=s.length)(hs:s.length<=1000000)(w:World):
 Calls Tryz.prog 212 #[.string ⟨s.toArray⟩,.int .i64 (at_:Int)] w λe w'=>e=.returned (.tuple #[.int .i64 (EV (QL (s.drop at_)).2.1),.int .i64 ((at_+(QL (s.drop at_)).2.2:Nat):Int),.int .i64 (QL (s.drop at_)).1])/\w=w':=by
 have c:=Lv (UD s at_ ha hs w);clear ha hs;have a:=Yf (s.drop at_);obtain⟨⟨j,n,k⟩,b⟩:∃p,p=QL (s.drop at_):=⟨_,rfl⟩;rw[<-b]at a c|-;clear b;have g:=Lv a;clear a;go_enter Tryz.func212,Tryz.ntmps212
 go_wp2_with fail
 refine c.out.mono ?_;rintro e l ⟨rfl,rfl⟩;clear c;have a:=g.out;clear g;rcases a with⟨h,d⟩|⟨h,d,i⟩
 ·subst h;go_wp2_with fail
  refine(AlW n d w).mono ?_;rintro e m ⟨rfl,rfl⟩;go_wp2_with fail
  go_ret3
  exact⟨rfl,rfl⟩
 ·subst d i;go_wp2_with fail
  go_ret3
  exact⟨by simp[EV],rfl⟩
end Go.Proofs.YtgnmkiafeplbpaaGreatDoor
