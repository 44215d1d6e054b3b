/- Lemmas for ArAll. -/
import Derived.Test.YtgnmkiafeplbpaaGreatDoorZf1
import Derived.Test.YtgnmkiafeplbpaaGreatDoorZf23
import Derived.Test.YtgnmkiafeplbpaaGreatDoorZf24
import Derived.Test.YtgnmkiafeplbpaaGreatDoorZf13
import Derived.Test.YtgnmkiafeplbpaaGreatDoorZf11
import Derived.Lib.AppendStr
import Derived.Maps.AppendAt
set_option linter.unusedVariables false
set_option linter.unusedSimpArgs false
set_option maxRecDepth 100000
set_option maxHeartbeats 16000000
namespace Go.Proofs.YtgnmkiafeplbpaaGreatDoor
open Go.RowKit Go.Deep
def Wr (W:World)(B g:Nat)(l:List UInt8):Prop:=B<=g/\∃v,Row W g 209 #[v]/\W.ownsRow B 5 1 v l.length (u8s l)
structure WrEff (B g:Nat)(w w':World):Prop where
 os:w'.os=w.os
 tape:w'.tape=w.tape
 output:w'.output=w.output
 size:w.heap.size<=w'.heap.size
 block:∀k,k<w.heap.size->k≠g->(∀cs,B<=k->¬Row w k 5 cs)->w'.heap[k]? =w.heap[k]?
theorem WrEff.of_below{B g:Nat}{w w':World}(b:Below w.heap.size w w'):WrEff B g w w':=⟨b.os,b.tape,b.output,b.size,λk hk _ _=>b.block k hk⟩
theorem WrEff.refl (B g:Nat)(w:World):WrEff B g w w:=⟨rfl,rfl,rfl,Nat.le_refl _,λ_ _ _ _=>rfl⟩
theorem WrEff.trans{B g:Nat}{a b c:World}(h:WrEff B g a b)(k:WrEff B g b c):WrEff B g a c:=
 ⟨k.os.trans h.os,k.tape.trans h.tape,k.output.trans h.output,Lj h.size k.size,λi hi hg hr=>by
  have e:=h.block i hi hg hr
  refine(k.block i (Lg hi h.size) hg (λcs hB hrow=>hr cs hB ?_)).trans e
  rw[Row]at hrow|-;rw[<-e];exact hrow⟩
theorem WrEff.row{B g k:Nat}{w w':World}{t:TypeId}{cs:Array Value}(h:WrEff B g w w')(hr:Row w k t cs)(hg:k≠g)(ht:t≠5):Row w' k t cs:=
 (h.block k hr.lt hg (λcs' _ h'=>ht (by rw[Row]at hr h';rw[hr]at h';injection h' with h';injection h' with _ h''))).trans hr
theorem WrEff.below{B g:Nat}{w w':World}(h:WrEff B g w w')(hB:B<=g)(hs:B<=w.heap.size):Below B w w':=
 ⟨h.os,h.tape,h.output,h.size,λk hk=>h.block k (by omega) (by omega) (λ_ hb _=>by omega)⟩
theorem WrEff.keeps{B g C:Nat}{w w':World}{t:TypeId}{cs:Array Value}(h:WrEff B g w w')(hg:Row w g t cs):KeepsFrom C w w':=
 ⟨h.size,λk o _ hk ho=>(h.block k (Lt.1 hk).1 (λe=>by subst e;rw[hg]at hk;cases hk;cases ho) (λcs' _ h'=>by rw[Row]at h';rw[h']at hk;cases hk;cases ho)).trans hk⟩
theorem Wr.go{W W':World}{B g:Nat}{l:List UInt8}(h:Wr W B g l)(b:Below W.heap.size W W'):Wr W' B g l:=by
 obtain⟨c,v,a,d⟩:=h;exact⟨c,v,a.below b a.lt,QU d b⟩
instance St.wr{B g:Nat}{l:List UInt8}:St (λW=>Wr W B g l):=⟨λh b=>h.go b⟩
theorem Wr.lt{W:World}{B g:Nat}{l:List UInt8}(h:Wr W B g l):g<W.heap.size:=by obtain⟨_,v,h1,_⟩:=h;exact h1.lt
theorem WrEff.of_own{B g n:Nat}{w w':World}{v:Value}{xs:List Value}(h:w.ownsRow B 5 1 v n xs)(hg:w.grownBy w' v.ownBlock):WrEff B g w w':=
 ⟨hg.os,hg.tape,hg.output,hg.size,λk hk _ hr=>hg.block k hk (λe=>by
  rcases h.2 with⟨rfl,_⟩|⟨g',cap,cur,rfl,hB,hh,_⟩
  ·simp[Value.ownBlock]at e
  ·have:g'=k:=by simpa[Value.ownBlock]using e.symm
   subst this
   exact hr _ hB hh)⟩
theorem WrEff.of_only{B g:Nat}{w w':World}(o:Only g w w'):WrEff B g w w':=⟨o.os,o.tape,o.output,LI o.size.symm,λk _ hk _=>o.block k hk⟩
theorem EN (w:World):
 Calls Tryz.prog 84 #[] w λe w'=>e=.returned (.pointer (some ⟨w.heap.size,0,none⟩))/\Wr w' w.heap.size w.heap.size []/\Below w.heap.size w w':=by
 go_enter Tryz.func84,Tryz.ntmps84
 go_wp2
 go_ret
 exact⟨rfl,⟨Nat.le_refl _,.slice none 0 0,Row.new _ _ _,World.ownsRow_nil _ _ _ _⟩,(Below.refl _ _).alloc (Nat.le_refl _) _⟩
theorem AeV (s:ByteArray):Lib.strCells s=u8s s.data.toList:=by
 rfl
theorem Yk (B g:Nat)(l:List UInt8)(s:ByteArray)(hl:l.length<=1000000)(hs:s.size<=1000000)(w:World)(h:Wr w B g l):
 Calls Tryz.prog 155 #[.pointer (some ⟨g,0,none⟩),.string s] w λe w'=>e=.returned (.pointer (some ⟨g,0,none⟩))/\Wr w' B g (l++s.data.toList)/\WrEff B g w w':=by
 obtain⟨i0,t,u,x,y⟩:=info_parts Ade;obtain⟨k,v,n,d⟩:=h;have hc:=n.cellv (i:=0) (v:=v) rfl;have hf:=n.free 0;have p:B<=w.heap.size:=L9 (Nat.lt_of_le_of_lt k n.lt);have b:=Lv d;clear d;go_enter Tryz.func155,Tryz.ntmps155
 go_wp2_with (at_builtin;refine Lib.wpList_append_own_string w rfl (.tmp 9) (.tmp 10) 111 9 rfl B 5 i0 Tryz.underlying111 Tryz.underlying9 t u x y v l.length (u8s l) rfl b.out s rfl (by unfold maxLen;omega) (by omega) p ?_)
 intro v' w1 a q _;have o:=n.grown q (QK b.out n (by decide));have e1:=WrEff.of_own (g:=g) b.out q;obtain⟨A',m',c',rfl⟩:∃A m c,v'=.slice A m c:=Ji a;have aa:=o.cellv (i:=0) (v:=v) rfl;have ab:=o.free 0;have nG:=QK a o (by decide);have j:=Lv a;clear a q hc hf;go_wp2
 go_ret
 have z:=Qu w1 g 0 (.slice A' m' c');refine⟨rfl,⟨k,_,o.set 0 _,?_⟩,e1.trans (WrEff.of_only z)⟩;have:=Za j.out z nG;rw[AeV, <-UN]at this;simpa using this
theorem Z2 (B g:Nat)(l:List UInt8)(n:Nat)(hl:l.length<=1000000)(hn:n<18446744073709551616)(w:World)(h:Wr w B g l):
 Calls Tryz.prog 88 #[.pointer (some ⟨g,0,none⟩),.int .u64 n] w λe w'=>e=.returned (.pointer (some ⟨g,0,none⟩))/\Wr w' B g (l++QC n)/\WrEff B g w w':=by
 have b:=Lv hn;clear hn;go_enter Tryz.func88,Tryz.ntmps88
 go_wp2_with fail
 refine(AaS n b.out w).mono ?_;rintro e i ⟨rfl,a⟩;go_wp2_with fail
 refine(Yk B g l _ hl (by rw[Ag5];have:=Qz n;omega) i (h.go a)).mono ?_;rintro e j ⟨rfl,d,c⟩;go_wp2_with fail
 go_ret
 exact⟨rfl,d,(WrEff.of_below a).trans c⟩
theorem E4 (B g:Nat)(l:List UInt8)(n:Int)(hl:l.length<=1000000)(hn:InI n)(w:World)(h:Wr w B g l):
 Calls Tryz.prog 89 #[.pointer (some ⟨g,0,none⟩),.int .i64 n] w λe w'=>e=.returned (.pointer (some ⟨g,0,none⟩))/\Wr w' B g (l++zz n)/\WrEff B g w w':=by
 have b:=Lv hn;clear hn;go_enter Tryz.func89,Tryz.ntmps89
 go_wp2_with fail
 refine(Agr n b.out w).mono ?_;rintro e i ⟨rfl,a⟩;go_wp2_with fail
 refine(Yk B g l _ hl (by rw[Ag5];have:=Et n;omega) i (h.go a)).mono ?_;rintro e j ⟨rfl,d,c⟩;go_wp2_with fail
 go_ret
 exact⟨rfl,d,(WrEff.of_below a).trans c⟩
theorem ZZ (B g:Nat)(l:List UInt8)(w:World)(h:Wr w B g l):
 Calls Tryz.prog 87 #[.pointer (some ⟨g,0,none⟩)] w λe w'=>e=.returned (.string ⟨l.toArray⟩)/\w=w':=by
 obtain⟨c,v,d,a⟩:=h;have j:=d.cellv (i:=0) (v:=v) rfl;have b:=XD (P:=Tryz.prog) 111 9 5 Tryz.underlying111 Tryz.underlying5 Tryz.underlying9 _ a;clear a;go_enter Tryz.func87,Tryz.ntmps87
 go_wp2_with fail
 go_ret
 exact⟨rfl,rfl⟩
theorem JT (B g:Nat)(l:List UInt8)(b:UInt8)(hl:l.length<=1000000)(w:World)(h:Wr w B g l):
 Calls Tryz.prog 85 #[.pointer (some ⟨g,0,none⟩),.int .u8 (b.toNat:Int)] w λe w'=>e=.returned (.pointer (some ⟨g,0,none⟩))/\Wr w' B g (l++[b])/\WrEff B g w w':=by
 obtain⟨i0,s,t,u,x⟩:=info_parts Ade;obtain⟨k,v,n,d⟩:=h;have hc:=n.cellv (i:=0) (v:=v) rfl;have hf:=n.free 0;have aa:B<=w.heap.size:=L9 (Nat.lt_of_le_of_lt k n.lt);have p:=Lv (d.alloc (.cells #[.int .u8 (b.toNat:Int)] 5));have y:=n.alloc (.cells #[.int .u8 (b.toNat:Int)] 5);have z:WrEff B g w (w.alloc (.cells #[.int .u8 (b.toNat:Int)] 5)):=WrEff.of_below ((Below.refl _ _).alloc (Nat.le_refl _) _);clear d;go_enter Tryz.func85,Tryz.ntmps85
 go_wp2_with (at_builtin;refine wpList_append_own_at _ rfl (.tmp 9) (.tmp 11) 111 rfl B 5 i0 (.int .u8 0) 1 1 Tryz.underlying111 s t u x rfl (by decide) v l.length (u8s l) rfl p.out ⟨w.heap.size,0,none⟩ 1 1 (u8s [b]) rfl rfl (XP _ _ _) (by simp[u8s,Value.oneCell']) (by unfold maxLen;omega) (by omega) (by simp;omega) ?_)
 intro v' w1 a q _ _;have o:=y.grown q (QK p.out y (by decide));have e1:=z.trans (WrEff.of_own (g:=g) p.out q);obtain⟨A',m',c',rfl⟩:∃A m c,v'=.slice A m c:=Ji a;have ab:=o.cellv (i:=0) (v:=v) rfl;have ac:=o.free 0;have nG:=QK a o (by decide);have j:=Lv a;clear a q hc hf y z;go_wp2
 go_ret
 have o2:=Qu w1 g 0 (.slice A' m' c');refine⟨rfl,⟨k,_,o.set 0 _,?_⟩,e1.trans (WrEff.of_only o2)⟩;have:=Za j.out o2 nG;rw[<-UN]at this;simpa using this
theorem Ago (B g:Nat)(l:List UInt8)(s:List UInt8)(hl:l.length<=900000)(hs:s.length<=1000000)(w:World)(h:Wr w B g l):
 Calls Tryz.prog 166 #[.pointer (some ⟨g,0,none⟩),.string ⟨s.toArray⟩] w λe w'=>e=.returned (.pointer (some ⟨g,0,none⟩))/\Wr w' B g (l++QC s.length++s)/\WrEff B g w w':=by
 have a:(⟨s.toArray⟩:ByteArray).size=s.length:=by simp[ByteArray.size]
 have m:(s.length:Int)<=1000000:=by omega
 have o:IntKind.u64.wrap (s.length:Int)=(s.length:Int):=by rw[IntKind.wrap_u64];omega
 have c:=Lv hs;have b:=Lv hl;clear hs hl;go_enter Tryz.func166,Tryz.ntmps166
 go_wp2_with fail
 refine(Z2 B g l s.length (by have:=b.out;omega) (by have:=c.out;omega) w h).mono ?_;rintro e n ⟨rfl,j,d⟩;go_wp2_with fail
 refine(Yk B g _ ⟨s.toArray⟩ (by have:=b.out;have:=Qz s.length;simp;omega) (by rw[a];exact c.out) n j).mono ?_;rintro e p ⟨rfl,k,i⟩;go_wp2_with fail
 go_ret
 exact⟨rfl,by simpa using k,d.trans i⟩
theorem AcJ{W:World}{A:Option Addr}{l:List Int}(hr:Rd W A (Qj l)){k:Nat}{x:Int}(hx:l[k]? =some x):∃ad,A=some ad/\W.cell? (ad.add k)=some (.int .i64 x):=
 ZT (c:=λn:Int=>Value.int .i64 n) hr hx
theorem AjY (n:Int)(w:World):
 Calls Tryz.prog 215 #[.int .i64 n] w λe w'=>e=.returned (.bool (AhE n))/\Below w.heap.size w w':=by
 unfold AhE;by_cases a:n<0
 ·go_enter Tryz.func215,Tryz.ntmps215
  go_wp2
  go_ret
  exact⟨by first| (simp;omega)| (simp[a];done),Below.refl _ _⟩
 ·go_enter Tryz.func215,Tryz.ntmps215
  go_wp2
  go_ret
  exact⟨by first| (simp;omega)| (simp[a];done),Below.refl _ _⟩
theorem AhO (A:Option Addr)(cap:Nat)(l:List Int)(p:Int->Bool)(w:World)(S:World->Prop)[stS:St S](hS:S w)(hrd:∀W,S W->Rd W A (Qj l))(hlo:∀W,S W->Below w.heap.size w W)
 (hp:∀x∈l,∀W,S W->Calls Tryz.prog 215 #[.int .i64 x] W λe W'=>e=.returned (.bool (p x))/\Below W.heap.size W W') (hl:l.length<=1000000):
 Calls Tryz.prog 250 #[.slice A l.length cap,.func (.func 215) #[] #[]] w λe w'=>e=.returned (.int .i64 (AaM p l))/\Below w.heap.size w w':=by
 have v:=Lv hp;have o:=Lv hrd;have h:=Lv hlo;have aa:(l.length:Int)<=1000000:=by omega
 clear hp hrd hlo hl;go_enter Tryz.func250,Tryz.ntmps250
 go_wp2
 go_loopw [8] (λi wr=>∃k:Nat,i=.int .i64 (k:Int)/\k<=l.length/\Hid (∀y∈l.take k,p y=false)/\S wr) (λi _=>l.length-(intOf i).toNat)
 case atStart=>exact⟨0,rfl,Nat.zero_le _,Lv (λx d=>by simp at d),hS⟩
 case round=>
  clear hS;obtain⟨k,rfl,hk,a,hS⟩:=hrel;by_cases c:k<l.length
  ·obtain⟨x,d⟩:∃x,l[k]? =some x:=⟨_,Ld c⟩;obtain⟨z,q,m⟩:=AcJ (o.out _ hS) d;have g:Hid (wr.cell? (z.add k)=some (.int .i64 x)):=m;have n:=Lv d;have b:=Lv (v.out x (Li d) wr hS);have u:(k:Int)<(l.length:Int):=by omega
   clear d c m;subst q;(have s:=g.out);go_wp2_with fail;clear s;refine b.out.mono ?_;rintro e w' ⟨rfl,t⟩;replace hS:=stS.go hS t;clear t b g;cases hs:p x
   ·have j:=Lv (JA a.out n.out hs);clear hs n;go_wp2_with fail
    go_roundw
    case rel=>exact⟨k+1,by go_num,by omega,j,hS⟩
    case measure=>simp[intOf];omega
   ·have j:=Lv (YL a.out n.out hs);clear hs n;go_wp2_with fail
    go_ret
    exact⟨by rw[j.out];rfl,h.out _ hS⟩
  ·obtain rfl:k=l.length:=by omega
   have j:=Lv (U3 (p:=p) (l:=l) (by have:=a.out;rwa[LO]at this));clear c hk;go_wp2
   go_ret
   exact⟨by rw[j.out];rfl,h.out _ hS⟩
theorem Afs (A:Option Addr)(cap:Nat)(l:List Int)(p:Int->Bool)(w:World)(S:World->Prop)[stS:St S](hS:S w)(hrd:∀W,S W->Rd W A (Qj l))(hlo:∀W,S W->Below w.heap.size w W)
 (hp:∀x∈l,∀W,S W->Calls Tryz.prog 215 #[.int .i64 x] W λe W'=>e=.returned (.bool (p x))/\Below W.heap.size W W') (hl:l.length<=1000000):
 Calls Tryz.prog 216 #[.slice A l.length cap,.func (.func 215) #[] #[]] w λe w'=>e=.returned (.bool (l.any p))/\Below w.heap.size w w':=by
 have a:=Lv (AhO A cap l p w S hS hrd hlo hp hl);clear hp hrd hlo hl hS;go_enter Tryz.func216,Tryz.ntmps216
 go_wp2_with fail
 refine a.out.mono ?_;rintro e w' ⟨rfl,c⟩;have b:=Lv (YK p l);clear a;go_wp2_with fail
 go_ret
 exact⟨QD b.out.symm,c⟩
theorem Amv{a b:List UInt8}{c d:Int}(h1:a=b)(h2:c=d):Ending.returned (.tuple #[.string ⟨a.toArray⟩,.int .i64 c])=.returned (.tuple #[.string ⟨b.toArray⟩,.int .i64 d]):=by rw[h1,h2]
theorem Ab8 (y:DlV)(w:World)(hy:DlOk w y)(hn:InI y.d.n):
 Calls Tryz.prog 165 #[.agg y.cells] w λe w'=>e=.returned (.tuple #[.string ⟨(Us y.d).1.toArray⟩,.int .i64 (Us y.d).2])/\Below w.heap.size w w':=by
 obtain⟨A,l,⟨a,c,n⟩⟩:=y;obtain⟨ha,am⟩:=hy;simp only at ha am hn;unfold DlV.cells;show Calls _ _ #[.agg #[.slice A a.length l,.int .i64 c,.int .i64 n]] _ _;have Ha:=Lv ha;have Hn:=Lv hn;have a0:(a.length:Int)<=1000000:=by omega
 obtain⟨pd,aa⟩:∃pd,pd=Us ⟨a,c,n⟩:=⟨_,rfl⟩;have HP:=Lv aa;show Calls _ _ _ _ (λe w'=>e=.returned (.tuple #[.string ⟨(Us ⟨a,c,n⟩).1.toArray⟩,.int .i64 (Us ⟨a,c,n⟩).2])/\Below w.heap.size w w');rw[<-aa];have u:Hid (¬Zg ⟨a,c,n⟩=true->pd=([],17)):=Lv (λh=>aa.trans (if_neg h));have af:Hid (Zg ⟨a,c,n⟩=true->pd=(Q9 ⟨a,c,n⟩,0)):=Lv (λh=>aa.trans (if_pos h));clear ha hn aa HP am;go_enter Tryz.func165,Tryz.ntmps165
 go_wp2_with (refine Qx _ _ rfl ?_)
 refine Stop.to ?_;refine Qf rfl 91 _ rfl #[.slice A a.length l,.int .i64 c,.int .i64 n] rfl ?_;intro G Gw Gh Gr Gb;have b1:=(Below.refl w.heap.size w).trans (Gb.mono Gh);obtain⟨S,s⟩:∃S,S=(λW=>Row W G 91 #[.slice A a.length l,.int .i64 c,.int .i64 n]/\Rd W A (Qj a)/\Below w.heap.size w W):=⟨_,rfl⟩;have aq:St S:=by rw[s];infer_instance
 have T0:Hid (∀W,S W->Row W G 91 #[.slice A a.length l,.int .i64 c,.int .i64 n]):=by show ∀W,_;rw[s];exact λW h=>h.1
 have T1:Hid (∀W,S W->Rd W A (Qj a)):=by show ∀W,_;rw[s];exact λW h=>h.2.1
 have T4:Hid (∀W,S W->Below w.heap.size w W):=by show ∀W,_;rw[s];exact λW h=>h.2.2
 have o:S Gw:=by rw[s];exact⟨Gr,Rd.go Ha.out b1,b1⟩
 have ab:Hid (∀W,Row W G 91 #[.slice A a.length l,.int .i64 c,.int .i64 n]->Below w.heap.size w W->S W):=by show ∀W,_;rw[s];exact λW h b=>⟨h,Rd.go Ha.out b,b⟩
 clear s Gb;have ap:G<Gw.heap.size:=Gr.lt;have c0:=Gr.cellv (i:=0) (v:=.slice A a.length l) rfl;have c1:=Gr.cellv (i:=1) (v:=.int .i64 c) rfl;have c2:=Gr.cellv (i:=2) (v:=.int .i64 n) rfl;have HC:=Lv (Afs A l a AhE Gw (λW=>S W/\Below Gw.heap.size Gw W) ⟨o,Below.refl _ _⟩ (λW h=>T1.out W h.1) (λW h=>h.2) (λx _ W _=>AjY x W) (by omega));by_cases hl:a.length<=30;rotate_left
 ·have al:¬(a.length:Int)<=30:=by omega
  have HF:=u.out (λh=>hl (rightDl_iff.1 h).1);clear hl HC;subst HF;go_wp2_with fail
  try rw[Exit.noGoto_ret]
  go_ret2
  exact⟨rfl,T4.out _ o⟩
 have al:(a.length:Int)<=30:=by omega
 by_cases hf:a.any AhE=true
 ·have HF:=u.out (λh=>by
    simp only[Zg,LK]at h
    rw[hf]at h;simp at h)
  rw[hf]at HC;clear hf hl;subst HF;go_wp2_with fail
  refine HC.out.mono ?_;rintro e w1 ⟨rfl,bb⟩;go_wp2_with fail
  try rw[Exit.noGoto_ret]
  go_ret2
  exact⟨rfl,(T4.out _ o).trans (bb.mono (T4.out _ o).size)⟩
 rw[Bool.not_eq_true]at hf;rw[hf]at HC;by_cases a1:c<1
 ·have HF:=u.out (λh=>by have:=(rightDl_iff.1 h).2.2.1;simp only at this;omega);clear hf hl;subst HF;go_wp2_with fail
  refine HC.out.mono ?_;rintro e w1 ⟨rfl,bb⟩;have ah:=(Gr.below bb Gr.lt).cellv (i:=1) (v:=.int .i64 c) rfl;go_wp2_with fail
  try rw[Exit.noGoto_ret]
  go_ret2
  exact⟨rfl,(T4.out _ o).trans (bb.mono (T4.out _ o).size)⟩
 by_cases a2:7<c
 ·have HF:=u.out (λh=>by have:=(rightDl_iff.1 h).2.2.2;simp only at this;omega);clear hf hl;subst HF;go_wp2_with fail
  refine HC.out.mono ?_;rintro e w1 ⟨rfl,bb⟩;have ah:=(Gr.below bb Gr.lt).cellv (i:=1) (v:=.int .i64 c) rfl;go_wp2_with fail
  try rw[Exit.noGoto_ret]
  go_ret2
  exact⟨rfl,(T4.out _ o).trans (bb.mono (T4.out _ o).size)⟩
 have Hr:Hid (Zg ⟨a,c,n⟩=true):=Lv (by unfold Zg;rw[hf];simp;omega);have HF:=af.out Hr.out;clear hf;subst HF;go_wp2_with fail
 refine HC.out.mono ?_;rintro e w1 ⟨rfl,bb⟩;have ai:=aq.go o bb;have r1:=T0.out _ ai;have ah:=r1.cellv (i:=1) (v:=.int .i64 c) rfl;have ag:=r1.cellv (i:=0) (v:=.slice A a.length l) rfl;clear o HC c0 c1 c2 Gr;go_wp2_with fail
 have a5:IntKind.u64.wrap (a.length:Int)=(a.length:Int):=by rw[IntKind.wrap_u64];omega
 refine wp_region_held (S:=S) (by kernel_rfl) ?_;simp only[Ly,Le,Ll,Nat.reduceAdd,Ln,Lp,Lz,Lu,Lk];show wpAnyH _ _ _ _ _ _ _ _ w1.drew;have p:=St.drew ai;clear ai r1 ah ag;have l1:Gw.heap.size<=w1.drew.heap.size:=bb.size;have lG:G<Gw.heap.size:=ap;clear bb ap;generalize w1.drew=w2 at p l1|-;(refine tkH 1 (.pointer (some ⟨G,0,none⟩)) rfl (Qd rfl (λW t=>by(go_simp))) ?_;simp only[Act.put,Qa,Qb,Qc]);(refine tkH 2 (.slice A a.length l) rfl (Qd rfl (λW t=>by((have h:=(T0.out W t).cellv (i:=0) (v:=.slice A a.length l) rfl;go_simp)))) ?_;simp only[Act.put,Qa,Qb,Qc]);(refine tkH 3 (.int .i64 (a.length:Int)) rfl (Qd rfl (λW t=>by(go_simp))) ?_;simp only[Act.put,Qa,Qb,Qc]);(refine tkH 4 (.int .u64 (a.length:Int)) rfl (Qd rfl (λW t=>by(go_simp))) ?_;simp only[Act.put,Qa,Qb,Qc]);(refine wpAnyH_all (rs:=[0]) (by kernel_rfl) (by simp) (λi hi=>?_);obtain rfl:i=0:=by simpa using hi);refine Qg rfl rfl (λK2 j=>?_);refine Qm 84 #[] (w1:=w2) (by go_simp) ((EN w2).mono ?_);rintro e w3 ⟨rfl,h3,b3⟩;refine⟨_,rfl,?_⟩;refine j _ _ ?_;clear j K2;simp only[Act.put,Qa,Qb,Qc];have m:=aq.go p b3;obtain⟨g,hg⟩:∃g,g=w2.heap.size:=⟨_,rfl⟩;have hB:G<g:=by omega
 rw[<-hg]at h3|-;clear p b3 l1 hg;refine⟨m,?_⟩;(refine wpAnyH_all (rs:=[5]) (by kernel_rfl) (by simp) (λi hi=>?_);obtain rfl:i=5:=by simpa using hi);refine Qg rfl rfl (λK2 j=>?_);refine Qm 88 #[.pointer (some ⟨g,0,none⟩),.int .u64 (a.length:Int)] (w1:=w3) (by go_simp) ((Z2 g g [] a.length (by simp) (by omega) w3 h3).mono ?_);rintro e w4 ⟨rfl,h4,e4⟩;refine⟨_,rfl,?_⟩;refine j _ _ ?_;clear j K2;simp only[Act.put,Qa,Qb,Qc];have q:S w4:=ab.out _ (e4.row (T0.out _ m) (by omega) (by decide)) ((T4.out _ m).trans ((e4.below (Nat.le_refl _) (by have:=h3.lt;omega)).mono (by omega)));refine⟨q,?_⟩;(refine tkH 6 (.pointer (some ⟨g,0,none⟩)) rfl (Qd rfl (λW t=>by(rfl))) ?_;simp only[Act.put,Qa,Qb,Qc]);refine wpAnyH_done (by kernel_rfl) ?_ _;have r4:=T0.out _ q;have ag:=r4.cellv (i:=0) (v:=.slice A a.length l) rfl;simp only[Lu]at h4;clear h3 m e4 r4;have ak:=Lv (rightDl_iff.1 Hr.out).2.1;have ae:(UInt8.ofNat c.toNat).toNat=c.toNat % 256:=by simp
 have an:((UInt8.ofNat c.toNat).toNat:Int)=c:=by rw[ae];omega
 clear ae;have ar:=Lv an;clear an;go_wp2_with fail
 go_loopw [37] (λi wr=>∃k:Nat,i=.int .i64 (k:Int)/\k<=a.length/\S wr/\Wr wr g g (QC a.length++Z9 (a.take k))) (λi _=>a.length-(intOf i).toNat)
 case atStart=>exact⟨0,rfl,Nat.zero_le _,q,by simpa[Z9]using h4⟩
 case round=>
  clear q h4 ag;obtain⟨k,rfl,hk,o,hw⟩:=hrel;have ao:=UJ (a.take k);have ax:=Qz a.length;rw[LH]at ao;have z:Hid ((QC a.length++Z9 (a.take k)).length<=400):=Lv (by rw[La];omega);clear ao ax;by_cases aj:k<a.length
  ·obtain⟨x,hx⟩:∃x,a[k]? =some x:=⟨_,Ld aj⟩;obtain⟨ad,av,aw⟩:=AcJ (T1.out _ o) hx;have ay:=ak.out x (Li hx);obtain⟨xn,rfl⟩:=LA ay.1;have a3:IntKind.u64.wrap (xn:Int)=(xn:Int):=by rw[IntKind.wrap_u64];omega
   have az:(k:Int)<(a.length:Int):=by omega
   have Hx:=Lv hx;clear hx aj;subst av;go_wp2_with fail
   refine(Z2 g g _ xn (by have:=z.out;omega) (by omega) wr hw).mono ?_;rintro e w5 ⟨rfl,h5,e5⟩;have au:S w5:=ab.out _ (e5.row (T0.out _ o) (by omega) (by decide)) ((T4.out _ o).trans ((e5.below (Nat.le_refl _) (by have:=hw.lt;omega)).mono (by omega)));clear o hw aw e5;go_wp2_with fail
   go_roundw
   case rel=>exact⟨k+1,by go_num,by omega,au,by rw[ZE Hx.out,Aa0, <-L4,L0];exact h5⟩
   case measure=>simp[intOf];omega
  ·obtain rfl:k=a.length:=by omega
   rw[LO]at hw z;clear aj hk;go_wp2_with fail
   have a4:IntKind.u8.wrap c=((UInt8.ofNat c.toNat).toNat:Int):=by rw[ar.out,IntKind.wrap_u8];omega
   refine wp_region_held (S:=S) (by kernel_rfl) ?_;simp only[Ly,Le,Ll,Nat.reduceAdd,Ln,Lp,Lz,Lu,Lk];show wpAnyH _ _ _ _ _ _ _ _ wr.drew;have p:=St.drew o;have ac:Wr wr.drew g g (QC a.length++Z9 a):=St.drew (S:=λW=>Wr W g g (QC a.length++Z9 a)) hw;clear o hw;generalize wr.drew=w2 at p ac|-;(refine tkH 0 (.pointer (some ⟨g,0,none⟩)) rfl (Qd rfl (λW t=>by(rfl))) ?_;simp only[Act.put,Qa,Qb,Qc]);(refine tkH 1 (.pointer (some ⟨G,1,none⟩)) rfl (Qd rfl (λW t=>by(go_simp))) ?_;simp only[Act.put,Qa,Qb,Qc]);(refine tkH 2 (.int .i64 c) rfl (Qd rfl (λW t=>by((have h:=(T0.out W t).cellv (i:=1) (v:=.int .i64 c) rfl;go_simp)))) ?_;simp only[Act.put,Qa,Qb,Qc]);(refine tkH 3 (.int .u8 ((UInt8.ofNat c.toNat).toNat:Int)) rfl (Qd rfl (λW t=>by(go_simp))) ?_;simp only[Act.put,Qa,Qb,Qc]);(refine tkH 5 (.pointer (some ⟨G,2,none⟩)) rfl (Qd rfl (λW t=>by(go_simp))) ?_;simp only[Act.put,Qa,Qb,Qc]);(refine tkH 6 (.int .i64 n) rfl (Qd rfl (λW t=>by((have h:=(T0.out W t).cellv (i:=2) (v:=.int .i64 n) rfl;go_simp)))) ?_;simp only[Act.put,Qa,Qb,Qc]);(refine wpAnyH_all (rs:=[4]) (by kernel_rfl) (by simp) (λi hi=>?_);obtain rfl:i=4:=by simpa using hi);refine Qg rfl rfl (λK2 j=>?_);refine Qm 85 #[.pointer (some ⟨g,0,none⟩),.int .u8 ((UInt8.ofNat c.toNat).toNat:Int)] (w1:=w2) (by go_simp) ((JT g g _ (UInt8.ofNat c.toNat) (by have:=z.out;omega) w2 ac).mono ?_);rintro e w3 ⟨rfl,h3,e3⟩;refine⟨_,rfl,?_⟩;refine j _ _ ?_;clear j K2;simp only[Act.put,Qa,Qb,Qc];have m:S w3:=ab.out _ (e3.row (T0.out _ p) (by omega) (by decide)) ((T4.out _ p).trans ((e3.below (Nat.le_refl _) (by have:=ac.lt;omega)).mono (by omega)));clear p ac e3;refine⟨m,?_⟩;(refine wpAnyH_all (rs:=[7]) (by kernel_rfl) (by simp) (λi hi=>?_);obtain rfl:i=7:=by simpa using hi);refine Qg rfl rfl (λK2 j=>?_);refine Qm 89 #[.pointer (some ⟨g,0,none⟩),.int .i64 n] (w1:=w3) (by go_simp) ((E4 g g _ n (by have:=z.out;simp only[La,Le,Ll]at this|-;omega) Hn.out w3 h3).mono ?_);rintro e w4 ⟨rfl,h4,e4⟩;refine⟨_,rfl,?_⟩;refine j _ _ ?_;clear j K2;simp only[Act.put,Qa,Qb,Qc];have q:S w4:=ab.out _ (e4.row (T0.out _ m) (by omega) (by decide)) ((T4.out _ m).trans ((e4.below (Nat.le_refl _) (by have:=h3.lt;omega)).mono (by omega)));clear m h3 e4;refine⟨q,?_⟩;obtain⟨R,hR⟩:∃R,R=QC a.length++Z9 a++[UInt8.ofNat c.toNat]++zz n:=⟨_,rfl⟩;rw[<-hR]at h4;have HR:=Lv hR;clear hR;(refine wpAnyH_all (rs:=[8]) (by kernel_rfl) (by simp) (λi hi=>?_);obtain rfl:i=8:=by simpa using hi);refine Qg rfl rfl (λK2 j=>?_);refine Qm 87 #[.pointer (some ⟨g,0,none⟩)] (w1:=w4) (by go_simp) ((ZZ g g _ w4 h4).mono ?_);rintro e w5 ⟨rfl,rfl⟩;refine⟨_,rfl,?_⟩;refine j _ _ ?_;clear j K2;simp only[Act.put,Qa,Qb,Qc];refine⟨q,?_⟩;(refine tkH 9 (.string ⟨R.toArray⟩) rfl (Qd rfl (λW t=>by(rfl))) ?_;simp only[Act.put,Qa,Qb,Qc]);(refine tkH 10 (.int .i64 0) rfl (Qd rfl (λW t=>by(rfl))) ?_;simp only[Act.put,Qa,Qb,Qc]);refine wpAnyH_done (by kernel_rfl) ?_ _;go_wp2_with fail
   try rw[Exit.noGoto_ret]
   go_ret2
   exact⟨Amv HR.out rfl,T4.out _ q⟩
end Go.Proofs.YtgnmkiafeplbpaaGreatDoor
